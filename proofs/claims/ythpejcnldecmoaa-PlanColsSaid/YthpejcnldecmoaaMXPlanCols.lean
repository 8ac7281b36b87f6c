/- RowPlanCols of the seat's law PlanCols: the law holds, under the statement's own conditions. -/
import Derived.Test.YthpejcnldecmoaaMA
import Derived.Test.YthpejcnldecmoaaMD
import Derived.Test.YthpejcnldecmoaaMC
import Derived.Test.YthpejcnldecmoaaME
import Derived.Test.YthpejcnldecmoaaRows
import Derived.Test.YthpejcnldecmoaaWSized
import Derived.WalkKit
import Derived.ProofKit
import Derived.OpenShut
import Derived.ShutString
import Derived.ChangeOld
import Derived.Below
import Derived.SizedLaws
import Derived.Carry
-- made by a program of this session (wip/tools) out of the translation; Lean checks it.
namespace Go.Proofs.Ythpejcnldecmoaa.H
open Go.RowKit Go.Proofs.YthpejcnldecmoaaW.PrintWords Go.Proofs.YthpejcnldecmoaaW.PrintLast Go.Proofs.YthpejcnldecmoaaW.PrintMore
attribute [local go_sem] max2_int min2_int max_two min_two max_three min_three max_four min_four   -- for this text's walks alone
set_option linter.unusedVariables false
set_option linter.unusedSimpArgs false

/-! ### lambrequinlaw13_PlanCols: function 6 -/
def lambrequinlaw13_PlanCols.l0 : Nat → Bool → List Int → List Int → List Int → List Int → Int → Int → ByteArray → List (Term) → Option (Bool)
 | 0, _, _, _, _, _, _, _, _, _ => none
 | k + 1, x7, x8, x9, x10, x11, x12, x13, x102000, x102001 => if x13 < (x102001.length : Int) then (if 0 ≤ x13 then (if ((rd_T45 x102001 x13).isVar = true) then (lambrequinlaw13_PlanCols.l0 k x7 x8 x9 x10 x11 x12 (wrap64 (x13 + 1)) x102000 x102001) else (lambrequinlaw13_PlanCols.l0 k x7 x8 x9 x10 x11 (wrap64 (x12 + 1)) (wrap64 (x13 + 1)) x102000 x102001)) else (none)) else (if x7 = true then (if (x8.length : Int) ≤ (x9.length : Int) then (if (x9.length : Int) ≤ (x10.length : Int) then (if (x10.length : Int) = (x102001.length : Int) then (if (x11.length : Int) = x12 then (some (decide (x12 ≤ (x8.length : Int)))) else (some false)) else (some false)) else (some false)) else (some false)) else (some false))
def lambrequinlaw13_PlanCols.f (k : Nat) (a0_0 : ByteArray) (l0_1 : List (Term)) (l1 : List ByteArray) (a2 : ByteArray) : Option (Bool) := (lambrequinlaw13_shown.f).bind fun t102 => (if (l0_1.length : Int) > 50 then (some t102) else ((plan_Cols.f k a0_0 l0_1 l1).bind fun t103 => ((some (([] : List ByteArray) : List ByteArray)).bind fun y106 => (if y106.length + l1.length < 8796093022208 then ((some (y106 ++ l1 : List ByteArray)).bind fun y109 => ((some (([a2] : List ByteArray) : List ByteArray)).bind fun y112 => (if y109.length + y112.length < 8796093022208 then ((plan_Cols.f k a0_0 l0_1 (y109 ++ y112)).bind fun t118 => ((lambrequinref09_Vars.f k a0_0 l0_1).bind fun t121 => ((plan_Cols.f k a0_0 l0_1 t121).bind fun t124 => ((plan_Cols.f k a0_0 l0_1 ([] : List ByteArray)).bind fun t127 => (lambrequinlaw13_PlanCols.l0 k t102 t103 t118 t124 t127 0 0 a0_0 l0_1))))) else (none)))) else (none)))))
theorem lambrequinlaw13_PlanCols.mono_l : ∀ k, (∀ y0 y1 y2 y3 y4 y5 y6 y7 y8, LeO (lambrequinlaw13_PlanCols.l0 k y0 y1 y2 y3 y4 y5 y6 y7 y8) (lambrequinlaw13_PlanCols.l0 (k + 1) y0 y1 y2 y3 y4 y5 y6 y7 y8))
 | 0 => fun _ _ _ _ _ _ _ _ _ r h => by simp [lambrequinlaw13_PlanCols.l0] at h
 | k + 1 => by
  have ih0 := lambrequinlaw13_PlanCols.mono_l k
  ·intro y0 y1 y2 y3 y4 y5 y6 y7 y8
   unfold lambrequinlaw13_PlanCols.l0
   repeat' first
   | (with_reducible exact ih0 _ _ _ _ _ _ _ _ _)
   | (with_reducible exact lambrequinref09_Vars.mono _ _ _)
   | (with_reducible exact plan_Cols.mono _ _ _ _)
   | (with_reducible exact LeO.refl _)
   | (with_reducible exact LeO.none _)
   | (with_reducible refine LeO.ite ?_ ?_)
   | (with_reducible refine LeO.bind ?_ (fun _ => ?_))
   | exact ih0 _ _ _ _ _ _ _ _ _
   | exact lambrequinref09_Vars.mono _ _ _
   | exact plan_Cols.mono _ _ _ _
   | exact LeO.none _
   | refine LeO.ite ?_ ?_
   | refine LeO.bind ?_ (fun _ => ?_)
theorem lambrequinlaw13_PlanCols.mono : ∀ a0 a1 a2 a3 k, LeO (lambrequinlaw13_PlanCols.f k a0 a1 a2 a3) (lambrequinlaw13_PlanCols.f (k + 1) a0 a1 a2 a3) := by
 intro a0 a1 a2 a3 k
 have ih0 := lambrequinlaw13_PlanCols.mono_l k
 unfold lambrequinlaw13_PlanCols.f
 repeat' first
   | (with_reducible exact ih0 _ _ _ _ _ _ _ _ _)
   | (with_reducible exact lambrequinref09_Vars.mono _ _ _)
   | (with_reducible exact plan_Cols.mono _ _ _ _)
   | (with_reducible exact LeO.refl _)
   | (with_reducible exact LeO.none _)
   | (with_reducible refine LeO.ite ?_ ?_)
   | (with_reducible refine LeO.bind ?_ (fun _ => ?_))
   | exact ih0 _ _ _ _ _ _ _ _ _
   | exact lambrequinref09_Vars.mono _ _ _
   | exact plan_Cols.mono _ _ _ _
   | exact LeO.none _
   | refine LeO.ite ?_ ?_
   | refine LeO.bind ?_ (fun _ => ?_)
def lambrequinlaw13_PlanCols.T5 : Bool × List (List Nat × List Nat) := (true, [([], []), ([], []), ([], []), ([1, 2], [1, 2]), ([], []), ([4], [4]), ([3, 5, 3], [3, 5]), ([0, 6, 6], [0, 6]), ([7, 7, 0, 1, 2, 3, 4, 5, 6, 7], [7])])
def lambrequinlaw13_PlanCols.B5 : List Nat := [0, 0, 0, 6, 0, 16, 62, 127, 255]
theorem lambrequinlaw13_PlanCols.tab5 : rtab .any (opsOf Try.f6 5) = lambrequinlaw13_PlanCols.T5 := by kernel_rfl
theorem lambrequinlaw13_PlanCols.bits5 : waitsOk lambrequinlaw13_PlanCols.T5.2 lambrequinlaw13_PlanCols.B5 = true := by kernel_rfl
set_option maxHeartbeats 8000000 in
set_option maxRecDepth 100000 in
theorem lambrequinlaw13_PlanCols.calls (k : Nat) (a0_0 : ByteArray) (A0_1 : Option Addr) (c0_1 : Nat) (l0_1 : List (Term)) (A1 : Option Addr) (c1 : Nat) (l1 : List ByteArray) (a2 : ByteArray) (r : Bool) (w : World) (hr0_1 : Kd.C k45 w A0_1 l0_1.length l0_1) (hc0_1 : l0_1.length ≤ c0_1) (hr1 : Kd.C Kd.string w A1 l1.length l1) (hc1 : l1.length ≤ c1) (h : lambrequinlaw13_PlanCols.f k a0_0 l0_1 l1 a2 = some r) :
  Calls Try.prog 6 #[.agg #[.string a0_0, .slice A0_1 l0_1.length c0_1], .slice A1 l1.length c1, .string a2] w fun e w' => e = .returned (.bool r) ∧ Below w.heap.size w w' := by
 have hu24 := Try.underlying24
 have HR0_1 := Aside0.mk hr0_1
 have HC0_1 := Aside0.mk hc0_1
 clear hr0_1 hc0_1
 have HR1 := Aside0.mk hr1
 have HC1 := Aside0.mk hc1
 clear hr1 hc1
 have HB := Aside0.mk (Below.refl w.heap.size w)
 have H : ((lambrequinlaw13_shown.f).bind fun t102 => (if (l0_1.length : Int) > 50 then (some t102) else ((plan_Cols.f k a0_0 l0_1 l1).bind fun t103 => ((some (([] : List ByteArray) : List ByteArray)).bind fun y106 => (if y106.length + l1.length < 8796093022208 then ((some (y106 ++ l1 : List ByteArray)).bind fun y109 => ((some (([a2] : List ByteArray) : List ByteArray)).bind fun y112 => (if y109.length + y112.length < 8796093022208 then ((plan_Cols.f k a0_0 l0_1 (y109 ++ y112)).bind fun t118 => ((lambrequinref09_Vars.f k a0_0 l0_1).bind fun t121 => ((plan_Cols.f k a0_0 l0_1 t121).bind fun t124 => ((plan_Cols.f k a0_0 l0_1 ([] : List ByteArray)).bind fun t127 => (lambrequinlaw13_PlanCols.l0 k t102 t103 t118 t124 t127 0 0 a0_0 l0_1))))) else (none)))) else (none)))))) = some r := h
 clear h
 replace H := Option.bind_eq_some_iff.mp H
 obtain ⟨t102, A40, H⟩ := H
 replace H : (if (l0_1.length : Int) > 50 then (some t102) else ((plan_Cols.f k a0_0 l0_1 l1).bind fun t103 => ((some (([] : List ByteArray) : List ByteArray)).bind fun y106 => (if y106.length + l1.length < 8796093022208 then ((some (y106 ++ l1 : List ByteArray)).bind fun y109 => ((some (([a2] : List ByteArray) : List ByteArray)).bind fun y112 => (if y109.length + y112.length < 8796093022208 then ((plan_Cols.f k a0_0 l0_1 (y109 ++ y112)).bind fun t118 => ((lambrequinref09_Vars.f k a0_0 l0_1).bind fun t121 => ((plan_Cols.f k a0_0 l0_1 t121).bind fun t124 => ((plan_Cols.f k a0_0 l0_1 ([] : List ByteArray)).bind fun t127 => (lambrequinlaw13_PlanCols.l0 k t102 t103 t118 t124 t127 0 0 a0_0 l0_1))))) else (none)))) else (none))))) = some r := H
 have A4 := Aside0.mk A40
 clear A40
 by_cases c5 : (l0_1.length : Int) > 50
 ·rw [if_pos c5] at H
  have c5b0 : decide (50 < (l0_1.length : Int)) = true := decide_eq_true c5
  have c5b1 : decide (50 < l0_1.length) = true := decide_eq_true (by omega)
  clear c5
  obtain rfl := Option.some.inj H
  go_enter Try.func6, Try.ntmps6
  go_wp2_with (first | ((with_reducible refine gate_dst (N := 3) rfl ?_); (try (refine gate_guard (by rfl) ?_; dsimp only)); refine box_event ?hg (N := 3) ?hd (cs := #[.string a0_0, .slice A0_1 l0_1.length c0_1]) (t := 24) ?hr ?_; (case hd => rfl); (case hg => rfl); (case hr => first | (go_simp; done) | (go_simp; rfl)); intro gb101 hg w6 hbox hb; have n0_ := Aside0.mk (below_step (by repeat (first | (with_reducible first | exact HB.out | apply below_alloc | apply pw_below_drewN | apply below_drew1) | exact HB.out)) hb); have n1_ := Aside0.mk (hbox); have n2_ := Aside0.mk ((by rw [hg]; exact (below_size (by repeat (first | (with_reducible first | exact HB.out | apply below_alloc | apply pw_below_drewN | apply below_drew1) | exact HB.out))) : w.heap.size ≤ gb101)); have n3_ := Aside0.mk ((by rw [hg]; exact (below_size (by repeat (first | (with_reducible first | exact HB.out | apply below_alloc | apply pw_below_drewN | apply below_drew1) | exact HB.out))) : w.heap.size ≤ gb101)); clear HB; have HB := n0_; have BK101 := n1_; have GW101 := n2_; have GE101 := n3_; clear n0_ n1_ n2_ n3_; clear hb hbox hg) | ((with_reducible refine gate_callee (f := 15) rfl ?_); refine goesL_ (some 14) rfl rfl Try.func15 (by kernel_rfl) rfl #[] rfl (by (try simp only [List.map_toArray, List.map_cons, List.map_nil]); first | done | rfl | (simp only [List.length_drop, List.length_take]; rfl)) ?_; (with_reducible refine (lambrequinlaw13_shown.calls  t102 _ A4.out).mono ?_); rintro e w7 ⟨rfl, hb⟩; refine ⟨_, rfl, ?_⟩; have n0_ := Aside0.mk (blk_below (g := gb101) (o := .cells #[.string a0_0, .slice A0_1 l0_1.length c0_1] 24 (0, 0)) (by (with_reducible repeat (first | refine blk_drewN ?_ _ | refine blk_drew ?_ | refine blk_alloc ?_ _)); exact BK101.out) hb); have n1_ := Aside0.mk (below_step (by repeat (first | (with_reducible first | exact HB.out | apply below_alloc | apply pw_below_drewN | apply below_drew1 | refine below_set ?_ GE101.out) | exact HB.out)) hb); clear BK101; clear HB; have BK101 := n0_; have HB := n1_; clear n0_ n1_; (try clear hb); (try clear hb2); (try clear hk); (try clear hi); have hcz8_0 : w7.cell? ⟨gb101, 0, none⟩ = some (.string a0_0) := (blk_cell BK101.out 0).trans rfl; have hcz8_1 : w7.cell? ⟨gb101, 1, none⟩ = some (.slice A0_1 l0_1.length c0_1) := (blk_cell BK101.out 1).trans rfl; have hfz8_0 := blk_frozen BK101.out 0; have hfz8_1 := blk_frozen BK101.out 1))
  go_ret
  exact ⟨by first | rfl | (simp [errW_none, errW_some] <;> rfl) | (simp [*, errW_none, errW_some] <;> rfl), by repeat (first | (with_reducible first | exact HB.out | apply below_alloc | apply pw_below_drewN | apply below_drew1 | refine below_set ?_ GE101.out) | exact HB.out)⟩
 ·rw [if_neg c5] at H
  have c5b0 : decide (50 < (l0_1.length : Int)) = false := decide_eq_false c5
  have c5b1 : decide (50 < l0_1.length) = false := decide_eq_false (by omega)
  clear c5
  replace H := Option.bind_eq_some_iff.mp H
  obtain ⟨t103, A90, H⟩ := H
  replace H : ((some (([] : List ByteArray) : List ByteArray)).bind fun y106 => (if y106.length + l1.length < 8796093022208 then ((some (y106 ++ l1 : List ByteArray)).bind fun y109 => ((some (([a2] : List ByteArray) : List ByteArray)).bind fun y112 => (if y109.length + y112.length < 8796093022208 then ((plan_Cols.f k a0_0 l0_1 (y109 ++ y112)).bind fun t118 => ((lambrequinref09_Vars.f k a0_0 l0_1).bind fun t121 => ((plan_Cols.f k a0_0 l0_1 t121).bind fun t124 => ((plan_Cols.f k a0_0 l0_1 ([] : List ByteArray)).bind fun t127 => (lambrequinlaw13_PlanCols.l0 k t102 t103 t118 t124 t127 0 0 a0_0 l0_1))))) else (none)))) else (none))) = some r := H
  have A9 := Aside0.mk A90
  clear A90
  obtain ⟨y106, hy106⟩ : ∃ y_ : List ByteArray, y_ = (([] : List ByteArray)) := ⟨_, rfl⟩
  replace H : (if y106.length + l1.length < 8796093022208 then ((some (y106 ++ l1 : List ByteArray)).bind fun y109 => ((some (([a2] : List ByteArray) : List ByteArray)).bind fun y112 => (if y109.length + y112.length < 8796093022208 then ((plan_Cols.f k a0_0 l0_1 (y109 ++ y112)).bind fun t118 => ((lambrequinref09_Vars.f k a0_0 l0_1).bind fun t121 => ((plan_Cols.f k a0_0 l0_1 t121).bind fun t124 => ((plan_Cols.f k a0_0 l0_1 ([] : List ByteArray)).bind fun t127 => (lambrequinlaw13_PlanCols.l0 k t102 t103 t118 t124 t127 0 0 a0_0 l0_1))))) else (none)))) else (none)) = some r := by first | (rw [hy106]; with_reducible exact H) | (have H2_ := (Option.bind_some _ _).symm.trans H; rw [hy106]; with_reducible exact H2_) | (have H2_ := (Option.bind_some _ _).symm.trans H; with_reducible exact H2_) | with_reducible exact H | (rw [hy106]; exact H) | exact H
  have Ny106 := Aside0.mk hy106
  clear hy106
  by_cases c10 : y106.length + l1.length < 8796093022208
  ·rw [if_pos c10] at H
   have LMc10 := Aside0.mk c10
   clear c10
   obtain ⟨y109, hy109⟩ : ∃ y_ : List ByteArray, y_ = (y106 ++ l1) := ⟨_, rfl⟩
   replace H : ((some (([a2] : List ByteArray) : List ByteArray)).bind fun y112 => (if y109.length + y112.length < 8796093022208 then ((plan_Cols.f k a0_0 l0_1 (y109 ++ y112)).bind fun t118 => ((lambrequinref09_Vars.f k a0_0 l0_1).bind fun t121 => ((plan_Cols.f k a0_0 l0_1 t121).bind fun t124 => ((plan_Cols.f k a0_0 l0_1 ([] : List ByteArray)).bind fun t127 => (lambrequinlaw13_PlanCols.l0 k t102 t103 t118 t124 t127 0 0 a0_0 l0_1))))) else (none))) = some r := by first | (rw [hy109]; with_reducible exact H) | (have H2_ := (Option.bind_some _ _).symm.trans H; rw [hy109]; with_reducible exact H2_) | (have H2_ := (Option.bind_some _ _).symm.trans H; with_reducible exact H2_) | with_reducible exact H | (rw [hy109]; exact H) | exact H
   have Ny109 := Aside0.mk hy109
   clear hy109
   obtain ⟨y112, hy112⟩ : ∃ y_ : List ByteArray, y_ = (([a2] : List ByteArray)) := ⟨_, rfl⟩
   replace H : (if y109.length + y112.length < 8796093022208 then ((plan_Cols.f k a0_0 l0_1 (y109 ++ y112)).bind fun t118 => ((lambrequinref09_Vars.f k a0_0 l0_1).bind fun t121 => ((plan_Cols.f k a0_0 l0_1 t121).bind fun t124 => ((plan_Cols.f k a0_0 l0_1 ([] : List ByteArray)).bind fun t127 => (lambrequinlaw13_PlanCols.l0 k t102 t103 t118 t124 t127 0 0 a0_0 l0_1))))) else (none)) = some r := by first | (rw [hy112]; with_reducible exact H) | (have H2_ := (Option.bind_some _ _).symm.trans H; rw [hy112]; with_reducible exact H2_) | (have H2_ := (Option.bind_some _ _).symm.trans H; with_reducible exact H2_) | with_reducible exact H | (rw [hy112]; exact H) | exact H
   have Ny112 := Aside0.mk hy112
   clear hy112
   by_cases c11 : y109.length + y112.length < 8796093022208
   ·rw [if_pos c11] at H
    have LMc11 := Aside0.mk c11
    clear c11
    obtain ⟨y115, hy115⟩ : ∃ y_ : List ByteArray, y_ = (y109 ++ y112) := ⟨_, rfl⟩
    replace H : ((plan_Cols.f k a0_0 l0_1 y115).bind fun t118 => ((lambrequinref09_Vars.f k a0_0 l0_1).bind fun t121 => ((plan_Cols.f k a0_0 l0_1 t121).bind fun t124 => ((plan_Cols.f k a0_0 l0_1 ([] : List ByteArray)).bind fun t127 => (lambrequinlaw13_PlanCols.l0 k t102 t103 t118 t124 t127 0 0 a0_0 l0_1))))) = some r := by first | (rw [hy115]; with_reducible exact H) | (have H2_ := (Option.bind_some _ _).symm.trans H; rw [hy115]; with_reducible exact H2_) | (have H2_ := (Option.bind_some _ _).symm.trans H; with_reducible exact H2_) | with_reducible exact H | (rw [hy115]; exact H) | exact H
    have Ny115 := Aside0.mk hy115
    clear hy115
    replace H := Option.bind_eq_some_iff.mp H
    obtain ⟨t118, A120, H⟩ := H
    replace H : ((lambrequinref09_Vars.f k a0_0 l0_1).bind fun t121 => ((plan_Cols.f k a0_0 l0_1 t121).bind fun t124 => ((plan_Cols.f k a0_0 l0_1 ([] : List ByteArray)).bind fun t127 => (lambrequinlaw13_PlanCols.l0 k t102 t103 t118 t124 t127 0 0 a0_0 l0_1)))) = some r := H
    have A12 := Aside0.mk A120
    clear A120
    replace H := Option.bind_eq_some_iff.mp H
    obtain ⟨t121, A130, H⟩ := H
    replace H : ((plan_Cols.f k a0_0 l0_1 t121).bind fun t124 => ((plan_Cols.f k a0_0 l0_1 ([] : List ByteArray)).bind fun t127 => (lambrequinlaw13_PlanCols.l0 k t102 t103 t118 t124 t127 0 0 a0_0 l0_1))) = some r := H
    have A13 := Aside0.mk A130
    clear A130
    replace H := Option.bind_eq_some_iff.mp H
    obtain ⟨t124, A140, H⟩ := H
    replace H : ((plan_Cols.f k a0_0 l0_1 ([] : List ByteArray)).bind fun t127 => (lambrequinlaw13_PlanCols.l0 k t102 t103 t118 t124 t127 0 0 a0_0 l0_1)) = some r := H
    have A14 := Aside0.mk A140
    clear A140
    replace H := Option.bind_eq_some_iff.mp H
    obtain ⟨t127, A150, H⟩ := H
    replace H : (lambrequinlaw13_PlanCols.l0 k t102 t103 t118 t124 t127 0 0 a0_0 l0_1) = some r := H
    have A15 := Aside0.mk A150
    clear A150
    have H' := Aside0.mk H
    clear H
    go_enter Try.func6, Try.ntmps6
    try go_wp2_with (first | ((with_reducible refine gate_dst (N := 3) rfl ?_); (try (refine gate_guard (by rfl) ?_; dsimp only)); refine box_event ?hg (N := 3) ?hd (cs := #[.string a0_0, .slice A0_1 l0_1.length c0_1]) (t := 24) ?hr ?_; (case hd => rfl); (case hg => rfl); (case hr => first | (go_simp; done) | (go_simp; rfl)); intro gb101 hg w16 hbox hb; have n0_ := Aside0.mk (below_step (by repeat (first | (with_reducible first | exact HB.out | apply below_alloc | apply pw_below_drewN | apply below_drew1) | exact HB.out)) hb); have n1_ := Aside0.mk (hbox); have n2_ := Aside0.mk ((by rw [hg]; exact (below_size (by repeat (first | (with_reducible first | exact HB.out | apply below_alloc | apply pw_below_drewN | apply below_drew1) | exact HB.out))) : w.heap.size ≤ gb101)); have n3_ := Aside0.mk ((by rw [hg]; exact (below_size (by repeat (first | (with_reducible first | exact HB.out | apply below_alloc | apply pw_below_drewN | apply below_drew1) | exact HB.out))) : w.heap.size ≤ gb101)); clear HB; have HB := n0_; have BK101 := n1_; have GW101 := n2_; have GE101 := n3_; clear n0_ n1_ n2_ n3_; clear hb hbox hg) | ((with_reducible refine gate_callee (f := 15) rfl ?_); refine goesL_ (some 14) rfl rfl Try.func15 (by kernel_rfl) rfl #[] rfl (by (try simp only [List.map_toArray, List.map_cons, List.map_nil]); first | done | rfl | (simp only [List.length_drop, List.length_take]; rfl)) ?_; (with_reducible refine (lambrequinlaw13_shown.calls  t102 _ A4.out).mono ?_); rintro e w17 ⟨rfl, hb⟩; refine ⟨_, rfl, ?_⟩; have n0_ := Aside0.mk (blk_below (g := gb101) (o := .cells #[.string a0_0, .slice A0_1 l0_1.length c0_1] 24 (0, 0)) (by (with_reducible repeat (first | refine blk_drewN ?_ _ | refine blk_drew ?_ | refine blk_alloc ?_ _)); exact BK101.out) hb); have n1_ := Aside0.mk (below_step (by repeat (first | (with_reducible first | exact HB.out | apply below_alloc | apply pw_below_drewN | apply below_drew1 | refine below_set ?_ GE101.out) | exact HB.out)) hb); clear BK101; clear HB; have BK101 := n0_; have HB := n1_; clear n0_ n1_; (try clear hb); (try clear hb2); (try clear hk); (try clear hi); have hcz18_0 : w17.cell? ⟨gb101, 0, none⟩ = some (.string a0_0) := (blk_cell BK101.out 0).trans rfl; have hcz18_1 : w17.cell? ⟨gb101, 1, none⟩ = some (.slice A0_1 l0_1.length c0_1) := (blk_cell BK101.out 1).trans rfl; have hfz18_0 := blk_frozen BK101.out 0; have hfz18_1 := blk_frozen BK101.out 1) | ((with_reducible refine gate_callee (f := 20) rfl ?_); refine goesL_ (some 22) rfl rfl Try.func20 (by kernel_rfl) rfl #[.agg #[.string a0_0, .slice A0_1 l0_1.length c0_1], .slice A1 l1.length c1] rfl (by (try simp only [List.map_toArray, List.map_cons, List.map_nil]); first | done | rfl | (simp only [List.length_drop, List.length_take]; rfl)) ?_; (with_reducible refine (plan_Cols.calls k a0_0 _ _ l0_1 _ _ l1 t103 _ ?side1 ?side2 ?side3 ?side4 A9.out).mono ?_); (case side1 => repeat (first | exact (Kd.C_below HR0_1.out HB.out) | (with_reducible refine Kd.C_alloc ?_ _) | (with_reducible refine Kd.C_drewN ?_ _) | (with_reducible refine Kd.C_drew ?_))); (case side2 => exact HC0_1.out); (case side3 => repeat (first | exact (Kd.C_below HR1.out HB.out) | (with_reducible refine Kd.C_alloc ?_ _) | (with_reducible refine Kd.C_drewN ?_ _) | (with_reducible refine Kd.C_drew ?_))); (case side4 => exact HC1.out); rintro e w19 ⟨v104, rfl, ho0, hb⟩; refine ⟨_, rfl, ?_⟩; have n0_ := Aside0.mk (Kd.R_lower ho0 (below_size (by repeat (first | (with_reducible first | exact HB.out | apply below_alloc | apply pw_below_drewN | apply below_drew1 | refine below_set ?_ GE101.out) | exact HB.out)))); have n1_ := Aside0.mk (blk_below (g := gb101) (o := .cells #[.string a0_0, .slice A0_1 l0_1.length c0_1] 24 (0, 0)) (by (with_reducible repeat (first | refine blk_drewN ?_ _ | refine blk_drew ?_ | refine blk_alloc ?_ _)); exact BK101.out) hb); have n2_ := Aside0.mk (below_step (by repeat (first | (with_reducible first | exact HB.out | apply below_alloc | apply pw_below_drewN | apply below_drew1 | refine below_set ?_ GE101.out) | exact HB.out)) hb); clear BK101; clear HB; have HO105 := n0_; have BK101 := n1_; have HB := n2_; clear n0_ n1_ n2_; (try clear hb); (try clear hb2); (try clear hk); (try clear hi); (try clear ho0)))
    have n0_ := Aside0.mk (Kd.R_drew HO105.out)
    have n1_ := Aside0.mk (blk_drew BK101.out)
    have n2_ := Aside0.mk (below_drew1 HB.out)
    clear HO105
    clear BK101
    clear HB
    have HO105 := n0_
    have BK101 := n1_
    have HB := n2_
    clear n0_ n1_ n2_
    refine start_ (n := 9) (S := fun w' => w'.cell? ⟨gb101, 0, none⟩ = some (.string a0_0) ∧ w'.cell? ⟨gb101, 1, none⟩ = some (.slice A0_1 l0_1.length c0_1)) (ds := []) #[false, false, false, false, false, false, false, false, false] (by kernel_rfl) rfl rfl ⟨(blk_cell BK101.out 0).trans rfl, (blk_cell BK101.out 1).trans rfl⟩ (fun hHeld => ?_); refine with_tabW lambrequinlaw13_PlanCols.tab5 lambrequinlaw13_PlanCols.bits5 (fun HT_ HW_ => ?_)
    generalize w19.drew = w20 at HO105 BK101 HB hHeld ⊢
    refine pure_ (i := 2) (N := some 25) (v := ?_) (a' := ?_) #[false, false, true, false, false, false, false, false, false] rfl rfl (any_of HT_.out (by kernel_rfl)) (fun _ _ _ h => h) (Or.inl ⟨by rfl, ?_⟩) ?_ ?_
    rotate_left
    ·intro w'
     go_simp
     with_reducible rfl
    rotate_left
    ·simp only [Act.put, List.setIfInBounds_toArray, List.set_cons_zero, List.set_cons_succ, i64_w, i32_w]
     rfl
    refine pure_ (i := 4) (N := some 27) (v := ?_) (a' := ?_) #[false, false, true, false, true, false, false, false, false] rfl rfl (any_of HT_.out (by kernel_rfl)) (fun _ _ _ h => h) (Or.inl ⟨by rfl, ?_⟩) ?_ ?_
    rotate_left
    ·intro w'
     go_simp
     with_reducible rfl
    rotate_left
    ·simp only [Act.put, List.setIfInBounds_toArray, List.set_cons_zero, List.set_cons_succ, i64_w, i32_w]
     rfl
    refine take_ (i := 0) (N := some 23) (v := ?_) (a' := ?_) #[true, false, true, false, true, false, false, false, false] rfl rfl (take_ofW HT_.out HW_.out (by kernel_rfl)) (fun _ _ _ h => h) (Or.inl ⟨by rfl, ?_⟩) hHeld ?_ ?_
    rotate_left
    ·rintro w' ⟨s0, s1⟩
     go_simp
     with_reducible rfl
    rotate_left
    ·simp only [Act.put, List.setIfInBounds_toArray, List.set_cons_zero, List.set_cons_succ, i64_w, i32_w]
     rfl
    refine join_ (σ := Value × Value × Value) 3 #[true, true, true, true, true, true, false, false, false] (fun s_ => [(24, s_.1), (26, s_.2.1), (28, s_.2.2)]) (fun s_ w' => (w'.cell? ⟨gb101, 0, none⟩ = some (.string a0_0) ∧ w'.cell? ⟨gb101, 1, none⟩ = some (.slice A0_1 l0_1.length c0_1)) ∧ (Kd.R (Kd.int .i64) 3 w' w.heap.size (fun _ => True) v104 t103) ∧ (Kd.R Kd.string 9 w' w.heap.size (fun k_ => some k_ ≠ (s_.2.2 : Value).ownBlock) s_.2.1 y109) ∧ (Kd.R Kd.string 9 w' w.heap.size (fun k_ => some k_ ≠ (s_.2.1 : Value).ownBlock) s_.2.2 y112) ∧ (w'.heap[gb101]? = some (.cells #[.string a0_0, .slice A0_1 l0_1.length c0_1] 24 (0, 0))) ∧ (Below w.heap.size w w')) ?_ ?_
    rotate_left
    ·intro hCont
     refine two_ (i := 1) (j := 5) (Ni := some 24) (Nj := some 28) #[true, true, true, false, true, false, false, false, false] #[true, false, true, false, true, true, false, false, false] rfl rfl rfl rfl (two_of HT_.out (by kernel_rfl)) (by decide) (by decide) (fun K hK => ?_) (fun K hK => ?_)
     ·skip
      refine Kd.R_lit_step Kd.string _ 9 ?hg (N := 24) ?hd (xs := ([] : List ByteArray)) (inner := []) (ok := fun _ => True) (okp := fun _ => True) ?hr ?hp (fun _ hk => hk) trivial (Below.refl _ _) (Nat.le_refl _) (by simp) ?_; (case hd => rfl); (case hg => rfl); (case hr => first | (go_simp; done) | (go_simp; rfl)); (case hp => exact (Reps.none _ _))
      intro v107 w21 ho22 hb hg_ hnew_
      clear hg_ hnew_
      (first | rw [← Ny106.out] at ho22 | (simp only [Int.reduceToNat] at ho22; rw [← Ny106.out] at ho22))
      have n0_ := Aside0.mk (Kd.R_below (by (with_reducible repeat (first | apply Kd.R_alloc | apply Kd.R_drewN | apply Kd.R_drew)); exact HO105.out) hb)
      have n1_ := Aside0.mk (Kd.R_lower ho22 (below_size (by repeat (first | (with_reducible first | exact HB.out | apply below_alloc | apply pw_below_drewN | apply below_drew1 | refine below_set ?_ GE101.out) | exact HB.out))))
      have n2_ := Aside0.mk (blk_below (g := gb101) (o := .cells #[.string a0_0, .slice A0_1 l0_1.length c0_1] 24 (0, 0)) (by (with_reducible repeat (first | refine blk_drewN ?_ _ | refine blk_drew ?_ | refine blk_alloc ?_ _)); exact BK101.out) hb)
      have n3_ := Aside0.mk (below_step (by repeat (first | (with_reducible first | exact HB.out | apply below_alloc | apply pw_below_drewN | apply below_drew1 | refine below_set ?_ GE101.out) | exact HB.out)) hb)
      clear HO105
      clear BK101
      clear HB
      have HO105 := n0_
      have HO108 := n1_
      have BK101 := n2_
      have HB := n3_
      clear n0_ n1_ n2_ n3_
      clear hb ho22
      refine hK.out _ _ ⟨(blk_cell BK101.out 0).trans rfl, (blk_cell BK101.out 1).trans rfl⟩ (fun hHeld => ?_)
      clear hK K
      refine norm_ (a' := ?_) ?_ ?_
      rotate_left
      ·show Act.put _ (some 24) _ = _
       simp only [Act.put, List.setIfInBounds_toArray, List.set_cons_zero, List.set_cons_succ, i64_w, i32_w]
       rfl
      refine two_ (i := 3) (j := 5) (Ni := some 26) (Nj := some 28) #[true, true, true, true, true, false, false, false, false] #[true, true, true, false, true, true, false, false, false] rfl rfl rfl rfl (two_of HT_.out (by kernel_rfl)) (by decide) (by decide) (fun K hK => ?_) (fun K hK => ?_)
      ·skip
       refine Kd.R_append_rows_step Kd.string (w0 := w) w.heap.size (by rfl) (.tmp 24) (.tmp 25) 28 9 (.string ⟨#[]⟩) 16 rfl Try.underlying28 info9 rfl (by decide) (by omega) v107 y106 l1 _ _ _ (fun _ => True) (fun _ => False) rfl rfl ?aO ?aR (fun _ _ h => h) (fun _ h => h.elim) ?aF ?aB ?aS ?aL ?_
       (case aR => repeat (first | exact (Kd.C_below HR1.out HB.out) | (with_reducible refine Kd.C_alloc ?_ _) | (with_reducible refine Kd.C_drewN ?_ _) | (with_reducible refine Kd.C_drew ?_)))
       (case aB => exact (by repeat (first | (with_reducible first | exact HB.out | apply below_alloc | apply pw_below_drewN | apply below_drew1 | refine below_set ?_ GE101.out) | exact HB.out)))
       (case aF => exact (fun _ _ => trivial))
       (case aO => exact (by (with_reducible repeat (first | apply Kd.R_alloc | apply Kd.R_drewN | apply Kd.R_drew)); exact HO108.out))
       (case aS => exact (below_size (by repeat (first | (with_reducible first | exact HB.out | apply below_alloc | apply pw_below_drewN | apply below_drew1 | refine below_set ?_ GE101.out) | exact HB.out))))
       (case aL => have := LMc10.out; omega)
       intro v110 w23 ho hb hg hat
       rw [← Ny109.out] at ho
       have n0_ := Aside0.mk (blk_grown (g := gb101) (o := .cells #[.string a0_0, .slice A0_1 l0_1.length c0_1] 24 (0, 0)) (by (with_reducible repeat (first | refine blk_drewN ?_ _ | refine blk_drew ?_ | refine blk_alloc ?_ _)); exact BK101.out) hg (Kd.R_ne HO108.out BK101.out (by decide)))
       have n1_ := Aside0.mk (Kd.R_over' (by (with_reducible repeat (first | apply Kd.R_alloc | apply Kd.R_drewN | apply Kd.R_drew)); exact HO105.out) (Kd.R_typed (by (with_reducible repeat (first | apply Kd.R_alloc | apply Kd.R_drewN | apply Kd.R_drew)); exact HO108.out)) (by decide) hg)
       have n2_ := Aside0.mk (hb)
       have n3_ := Aside0.mk (ho)
       clear BK101
       clear HO105
       clear HB
       clear HO108
       have BK101 := n0_
       have HO105 := n1_
       have HB := n2_
       have HO111 := n3_
       clear n0_ n1_ n2_ n3_
       clear ho hb hg hat
       refine hK.out _ _ ⟨(blk_cell BK101.out 0).trans rfl, (blk_cell BK101.out 1).trans rfl⟩ (fun hHeld => ?_)
       clear hK K
       refine norm_ (a' := ?_) ?_ ?_
       rotate_left
       ·show Act.put _ (some 26) _ = _
        simp only [Act.put, List.setIfInBounds_toArray, List.set_cons_zero, List.set_cons_succ, i64_w, i32_w]
        rfl
       refine one_ (i := 5) (N := some 28) #[true, true, true, true, true, true, false, false, false] rfl rfl (one_of HT_.out (by kernel_rfl)) (by decide) (fun K hK => ?_)
       refine Kd.R_lit_step Kd.string _ 9 ?hg (N := 28) ?hd (xs := ([a2] : List ByteArray)) (inner := [.string a2]) (ok := fun _ => True) (okp := fun _ => True) ?hr ?hp (fun _ hk => hk) trivial (Below.refl _ _) (Nat.le_refl _) (by simp) ?_; (case hd => rfl); (case hg => rfl); (case hr => first | (go_simp; done) | (go_simp; rfl)); (case hp => exact (Reps.one (show Kd.M Kd.string _ _ _ a2 [.string a2] from rfl) (Reps.none _ _)))
       intro v113 w24 ho25 hb hg_ hnew_
       clear hg_ hnew_
       (first | rw [← Ny112.out] at ho25 | (simp only [Int.reduceToNat] at ho25; rw [← Ny112.out] at ho25))
       have n0_ := Aside0.mk (Kd.R_below (by (with_reducible repeat (first | apply Kd.R_alloc | apply Kd.R_drewN | apply Kd.R_drew)); exact HO105.out) hb)
       have n1_ := Aside0.mk (Kd.R_elder' (by (with_reducible repeat (first | apply Kd.R_alloc | apply Kd.R_drewN | apply Kd.R_drew)); exact HO111.out) (Kd.R_base ho25) hb)
       have n2_ := Aside0.mk (Kd.R_lower (Kd.R_new' ho25 (Kd.R_lt (by (with_reducible repeat (first | apply Kd.R_alloc | apply Kd.R_drewN | apply Kd.R_drew)); exact HO111.out))) (below_size (by repeat (first | (with_reducible first | exact HB.out | apply below_alloc | apply pw_below_drewN | apply below_drew1 | refine below_set ?_ GE101.out) | exact HB.out))))
       have n3_ := Aside0.mk (blk_below (g := gb101) (o := .cells #[.string a0_0, .slice A0_1 l0_1.length c0_1] 24 (0, 0)) (by (with_reducible repeat (first | refine blk_drewN ?_ _ | refine blk_drew ?_ | refine blk_alloc ?_ _)); exact BK101.out) hb)
       have n4_ := Aside0.mk (below_step (by repeat (first | (with_reducible first | exact HB.out | apply below_alloc | apply pw_below_drewN | apply below_drew1 | refine below_set ?_ GE101.out) | exact HB.out)) hb)
       clear HO105
       clear HO111
       clear BK101
       clear HB
       have HO105 := n0_
       have HO111 := n1_
       have HO114 := n2_
       have BK101 := n3_
       have HB := n4_
       clear n0_ n1_ n2_ n3_ n4_
       clear hb ho25
       refine hK.out _ _ ⟨(blk_cell BK101.out 0).trans rfl, (blk_cell BK101.out 1).trans rfl⟩ (fun hHeld => ?_)
       clear hK K
       refine norm_ (a' := ?_) ?_ ?_
       rotate_left
       ·show Act.put _ (some 28) _ = _
        simp only [Act.put, List.setIfInBounds_toArray, List.set_cons_zero, List.set_cons_succ, i64_w, i32_w]
        rfl
       exact norm_ (by simp only [putAll, Act.put, List.setIfInBounds_toArray, List.set_cons_zero, List.set_cons_succ]) (hCont (v107, v110, v113) _ ⟨hHeld, (by (with_reducible repeat (first | apply Kd.R_alloc | apply Kd.R_drewN | apply Kd.R_drew)); exact HO105.out), (by (with_reducible repeat (first | apply Kd.R_alloc | apply Kd.R_drewN | apply Kd.R_drew)); exact Kd.R_mono HO111.out (fun _ hk => hk.2)), (by (with_reducible repeat (first | apply Kd.R_alloc | apply Kd.R_drewN | apply Kd.R_drew)); exact Kd.R_mono HO114.out (fun _ hk => hk.2)), (by (with_reducible repeat (first | refine blk_drewN ?_ _ | refine blk_drew ?_ | refine blk_alloc ?_ _)); exact BK101.out), (by repeat (first | (with_reducible first | exact HB.out | apply below_alloc | apply pw_below_drewN | apply below_drew1 | refine below_set ?_ GE101.out) | exact HB.out))⟩)
      ·skip
       refine Kd.R_lit_step Kd.string _ 9 ?hg (N := 28) ?hd (xs := ([a2] : List ByteArray)) (inner := [.string a2]) (ok := fun _ => True) (okp := fun _ => True) ?hr ?hp (fun _ hk => hk) trivial (Below.refl _ _) (Nat.le_refl _) (by simp) ?_; (case hd => rfl); (case hg => rfl); (case hr => first | (go_simp; done) | (go_simp; rfl)); (case hp => exact (Reps.one (show Kd.M Kd.string _ _ _ a2 [.string a2] from rfl) (Reps.none _ _)))
       intro v113 w23 ho24 hb hg_ hnew_
       clear hg_ hnew_
       (first | rw [← Ny112.out] at ho24 | (simp only [Int.reduceToNat] at ho24; rw [← Ny112.out] at ho24))
       have n0_ := Aside0.mk (Kd.R_below (by (with_reducible repeat (first | apply Kd.R_alloc | apply Kd.R_drewN | apply Kd.R_drew)); exact HO105.out) hb)
       have n1_ := Aside0.mk (Kd.R_elder' (by (with_reducible repeat (first | apply Kd.R_alloc | apply Kd.R_drewN | apply Kd.R_drew)); exact HO108.out) (Kd.R_base ho24) hb)
       have n2_ := Aside0.mk (Kd.R_lower (Kd.R_new' ho24 (Kd.R_lt (by (with_reducible repeat (first | apply Kd.R_alloc | apply Kd.R_drewN | apply Kd.R_drew)); exact HO108.out))) (below_size (by repeat (first | (with_reducible first | exact HB.out | apply below_alloc | apply pw_below_drewN | apply below_drew1 | refine below_set ?_ GE101.out) | exact HB.out))))
       have n3_ := Aside0.mk (blk_below (g := gb101) (o := .cells #[.string a0_0, .slice A0_1 l0_1.length c0_1] 24 (0, 0)) (by (with_reducible repeat (first | refine blk_drewN ?_ _ | refine blk_drew ?_ | refine blk_alloc ?_ _)); exact BK101.out) hb)
       have n4_ := Aside0.mk (below_step (by repeat (first | (with_reducible first | exact HB.out | apply below_alloc | apply pw_below_drewN | apply below_drew1 | refine below_set ?_ GE101.out) | exact HB.out)) hb)
       clear HO105
       clear HO108
       clear BK101
       clear HB
       have HO105 := n0_
       have HO108 := n1_
       have HO114 := n2_
       have BK101 := n3_
       have HB := n4_
       clear n0_ n1_ n2_ n3_ n4_
       clear hb ho24
       refine hK.out _ _ ⟨(blk_cell BK101.out 0).trans rfl, (blk_cell BK101.out 1).trans rfl⟩ (fun hHeld => ?_)
       clear hK K
       refine norm_ (a' := ?_) ?_ ?_
       rotate_left
       ·show Act.put _ (some 28) _ = _
        simp only [Act.put, List.setIfInBounds_toArray, List.set_cons_zero, List.set_cons_succ, i64_w, i32_w]
        rfl
       refine one_ (i := 3) (N := some 26) #[true, true, true, true, true, true, false, false, false] rfl rfl (one_of HT_.out (by kernel_rfl)) (by decide) (fun K hK => ?_)
       refine Kd.R_append_rows_step Kd.string (w0 := w) w.heap.size (by rfl) (.tmp 24) (.tmp 25) 28 9 (.string ⟨#[]⟩) 16 rfl Try.underlying28 info9 rfl (by decide) (by omega) v107 y106 l1 _ _ _ (fun k_ => some k_ ≠ (v113 : Value).ownBlock) (fun _ => False) rfl rfl ?aO ?aR (fun _ _ h => h) (fun _ h => h.elim) ?aF ?aB ?aS ?aL ?_
       (case aR => repeat (first | exact (Kd.C_below HR1.out HB.out) | (with_reducible refine Kd.C_alloc ?_ _) | (with_reducible refine Kd.C_drewN ?_ _) | (with_reducible refine Kd.C_drew ?_)))
       (case aB => exact (by repeat (first | (with_reducible first | exact HB.out | apply below_alloc | apply pw_below_drewN | apply below_drew1 | refine below_set ?_ GE101.out) | exact HB.out)))
       (case aF => exact (fun k_ hk => Kd.fresh' (Kd.R_lt (by (with_reducible repeat (first | apply Kd.R_alloc | apply Kd.R_drewN | apply Kd.R_drew)); exact HO114.out)) k_ hk))
       (case aO => exact (by (with_reducible repeat (first | apply Kd.R_alloc | apply Kd.R_drewN | apply Kd.R_drew)); exact Kd.R_mono HO108.out (fun _ hk => hk.2)))
       (case aS => exact (below_size (by repeat (first | (with_reducible first | exact HB.out | apply below_alloc | apply pw_below_drewN | apply below_drew1 | refine below_set ?_ GE101.out) | exact HB.out))))
       (case aL => have := LMc10.out; omega)
       intro v110 w25 ho hb hg hat
       rw [← Ny109.out] at ho
       have n0_ := Aside0.mk (blk_grown (g := gb101) (o := .cells #[.string a0_0, .slice A0_1 l0_1.length c0_1] 24 (0, 0)) (by (with_reducible repeat (first | refine blk_drewN ?_ _ | refine blk_drew ?_ | refine blk_alloc ?_ _)); exact BK101.out) hg (Kd.R_ne HO108.out BK101.out (by decide)))
       have n1_ := Aside0.mk (Kd.R_over' (by (with_reducible repeat (first | apply Kd.R_alloc | apply Kd.R_drewN | apply Kd.R_drew)); exact HO105.out) (Kd.R_typed (by (with_reducible repeat (first | apply Kd.R_alloc | apply Kd.R_drewN | apply Kd.R_drew)); exact HO108.out)) (by decide) hg)
       have n2_ := Aside0.mk (Kd.R_after (ok := (fun _ => True)) (by (with_reducible repeat (first | apply Kd.R_alloc | apply Kd.R_drewN | apply Kd.R_drew)); exact HO114.out) hg hat)
       have n3_ := Aside0.mk (hb)
       have n4_ := Aside0.mk (ho)
       clear BK101
       clear HO105
       clear HO114
       clear HB
       clear HO108
       have BK101 := n0_
       have HO105 := n1_
       have HO114 := n2_
       have HB := n3_
       have HO111 := n4_
       clear n0_ n1_ n2_ n3_ n4_
       clear ho hb hg hat
       refine hK.out _ _ ⟨(blk_cell BK101.out 0).trans rfl, (blk_cell BK101.out 1).trans rfl⟩ (fun hHeld => ?_)
       clear hK K
       refine norm_ (a' := ?_) ?_ ?_
       rotate_left
       ·show Act.put _ (some 26) _ = _
        simp only [Act.put, List.setIfInBounds_toArray, List.set_cons_zero, List.set_cons_succ, i64_w, i32_w]
        rfl
       exact norm_ (by simp only [putAll, Act.put, List.setIfInBounds_toArray, List.set_cons_zero, List.set_cons_succ]) (hCont (v107, v110, v113) _ ⟨hHeld, (by (with_reducible repeat (first | apply Kd.R_alloc | apply Kd.R_drewN | apply Kd.R_drew)); exact HO105.out), (by (with_reducible repeat (first | apply Kd.R_alloc | apply Kd.R_drewN | apply Kd.R_drew)); exact HO111.out), (by (with_reducible repeat (first | apply Kd.R_alloc | apply Kd.R_drewN | apply Kd.R_drew)); exact Kd.R_mono HO114.out (fun _ hk => hk.2)), (by (with_reducible repeat (first | refine blk_drewN ?_ _ | refine blk_drew ?_ | refine blk_alloc ?_ _)); exact BK101.out), (by repeat (first | (with_reducible first | exact HB.out | apply below_alloc | apply pw_below_drewN | apply below_drew1 | refine below_set ?_ GE101.out) | exact HB.out))⟩)
     ·skip
      refine Kd.R_lit_step Kd.string _ 9 ?hg (N := 28) ?hd (xs := ([a2] : List ByteArray)) (inner := [.string a2]) (ok := fun _ => True) (okp := fun _ => True) ?hr ?hp (fun _ hk => hk) trivial (Below.refl _ _) (Nat.le_refl _) (by simp) ?_; (case hd => rfl); (case hg => rfl); (case hr => first | (go_simp; done) | (go_simp; rfl)); (case hp => exact (Reps.one (show Kd.M Kd.string _ _ _ a2 [.string a2] from rfl) (Reps.none _ _)))
      intro v113 w21 ho22 hb hg_ hnew_
      clear hg_ hnew_
      (first | rw [← Ny112.out] at ho22 | (simp only [Int.reduceToNat] at ho22; rw [← Ny112.out] at ho22))
      have n0_ := Aside0.mk (Kd.R_below (by (with_reducible repeat (first | apply Kd.R_alloc | apply Kd.R_drewN | apply Kd.R_drew)); exact HO105.out) hb)
      have n1_ := Aside0.mk (Kd.R_lower ho22 (below_size (by repeat (first | (with_reducible first | exact HB.out | apply below_alloc | apply pw_below_drewN | apply below_drew1 | refine below_set ?_ GE101.out) | exact HB.out))))
      have n2_ := Aside0.mk (blk_below (g := gb101) (o := .cells #[.string a0_0, .slice A0_1 l0_1.length c0_1] 24 (0, 0)) (by (with_reducible repeat (first | refine blk_drewN ?_ _ | refine blk_drew ?_ | refine blk_alloc ?_ _)); exact BK101.out) hb)
      have n3_ := Aside0.mk (below_step (by repeat (first | (with_reducible first | exact HB.out | apply below_alloc | apply pw_below_drewN | apply below_drew1 | refine below_set ?_ GE101.out) | exact HB.out)) hb)
      clear HO105
      clear BK101
      clear HB
      have HO105 := n0_
      have HO114 := n1_
      have BK101 := n2_
      have HB := n3_
      clear n0_ n1_ n2_ n3_
      clear hb ho22
      refine hK.out _ _ ⟨(blk_cell BK101.out 0).trans rfl, (blk_cell BK101.out 1).trans rfl⟩ (fun hHeld => ?_)
      clear hK K
      refine norm_ (a' := ?_) ?_ ?_
      rotate_left
      ·show Act.put _ (some 28) _ = _
       simp only [Act.put, List.setIfInBounds_toArray, List.set_cons_zero, List.set_cons_succ, i64_w, i32_w]
       rfl
      refine one_ (i := 1) (N := some 24) #[true, true, true, false, true, true, false, false, false] rfl rfl (one_of HT_.out (by kernel_rfl)) (by decide) (fun K hK => ?_)
      refine Kd.R_lit_step Kd.string _ 9 ?hg (N := 24) ?hd (xs := ([] : List ByteArray)) (inner := []) (ok := fun _ => True) (okp := fun _ => True) ?hr ?hp (fun _ hk => hk) trivial (Below.refl _ _) (Nat.le_refl _) (by simp) ?_; (case hd => rfl); (case hg => rfl); (case hr => first | (go_simp; done) | (go_simp; rfl)); (case hp => exact (Reps.none _ _))
      intro v107 w23 ho24 hb hg_ hnew_
      clear hg_ hnew_
      (first | rw [← Ny106.out] at ho24 | (simp only [Int.reduceToNat] at ho24; rw [← Ny106.out] at ho24))
      have n0_ := Aside0.mk (Kd.R_below (by (with_reducible repeat (first | apply Kd.R_alloc | apply Kd.R_drewN | apply Kd.R_drew)); exact HO105.out) hb)
      have n1_ := Aside0.mk (Kd.R_elder' (by (with_reducible repeat (first | apply Kd.R_alloc | apply Kd.R_drewN | apply Kd.R_drew)); exact HO114.out) (Kd.R_base ho24) hb)
      have n2_ := Aside0.mk (Kd.R_lower (Kd.R_new' ho24 (Kd.R_lt (by (with_reducible repeat (first | apply Kd.R_alloc | apply Kd.R_drewN | apply Kd.R_drew)); exact HO114.out))) (below_size (by repeat (first | (with_reducible first | exact HB.out | apply below_alloc | apply pw_below_drewN | apply below_drew1 | refine below_set ?_ GE101.out) | exact HB.out))))
      have n3_ := Aside0.mk (blk_below (g := gb101) (o := .cells #[.string a0_0, .slice A0_1 l0_1.length c0_1] 24 (0, 0)) (by (with_reducible repeat (first | refine blk_drewN ?_ _ | refine blk_drew ?_ | refine blk_alloc ?_ _)); exact BK101.out) hb)
      have n4_ := Aside0.mk (below_step (by repeat (first | (with_reducible first | exact HB.out | apply below_alloc | apply pw_below_drewN | apply below_drew1 | refine below_set ?_ GE101.out) | exact HB.out)) hb)
      clear HO105
      clear HO114
      clear BK101
      clear HB
      have HO105 := n0_
      have HO114 := n1_
      have HO108 := n2_
      have BK101 := n3_
      have HB := n4_
      clear n0_ n1_ n2_ n3_ n4_
      clear hb ho24
      refine hK.out _ _ ⟨(blk_cell BK101.out 0).trans rfl, (blk_cell BK101.out 1).trans rfl⟩ (fun hHeld => ?_)
      clear hK K
      refine norm_ (a' := ?_) ?_ ?_
      rotate_left
      ·show Act.put _ (some 24) _ = _
       simp only [Act.put, List.setIfInBounds_toArray, List.set_cons_zero, List.set_cons_succ, i64_w, i32_w]
       rfl
      refine one_ (i := 3) (N := some 26) #[true, true, true, true, true, true, false, false, false] rfl rfl (one_of HT_.out (by kernel_rfl)) (by decide) (fun K hK => ?_)
      refine Kd.R_append_rows_step Kd.string (w0 := w) w.heap.size (by rfl) (.tmp 24) (.tmp 25) 28 9 (.string ⟨#[]⟩) 16 rfl Try.underlying28 info9 rfl (by decide) (by omega) v107 y106 l1 _ _ _ (fun k_ => some k_ ≠ (v113 : Value).ownBlock) (fun _ => False) rfl rfl ?aO ?aR (fun _ _ h => h) (fun _ h => h.elim) ?aF ?aB ?aS ?aL ?_
      (case aR => repeat (first | exact (Kd.C_below HR1.out HB.out) | (with_reducible refine Kd.C_alloc ?_ _) | (with_reducible refine Kd.C_drewN ?_ _) | (with_reducible refine Kd.C_drew ?_)))
      (case aB => exact (by repeat (first | (with_reducible first | exact HB.out | apply below_alloc | apply pw_below_drewN | apply below_drew1 | refine below_set ?_ GE101.out) | exact HB.out)))
      (case aF => exact (fun k_ hk => Kd.fresh' (Kd.R_lt (by (with_reducible repeat (first | apply Kd.R_alloc | apply Kd.R_drewN | apply Kd.R_drew)); exact HO114.out)) k_ hk))
      (case aO => exact (by (with_reducible repeat (first | apply Kd.R_alloc | apply Kd.R_drewN | apply Kd.R_drew)); exact Kd.R_mono HO108.out (fun _ hk => hk.2)))
      (case aS => exact (below_size (by repeat (first | (with_reducible first | exact HB.out | apply below_alloc | apply pw_below_drewN | apply below_drew1 | refine below_set ?_ GE101.out) | exact HB.out))))
      (case aL => have := LMc10.out; omega)
      intro v110 w25 ho hb hg hat
      rw [← Ny109.out] at ho
      have n0_ := Aside0.mk (blk_grown (g := gb101) (o := .cells #[.string a0_0, .slice A0_1 l0_1.length c0_1] 24 (0, 0)) (by (with_reducible repeat (first | refine blk_drewN ?_ _ | refine blk_drew ?_ | refine blk_alloc ?_ _)); exact BK101.out) hg (Kd.R_ne HO108.out BK101.out (by decide)))
      have n1_ := Aside0.mk (Kd.R_over' (by (with_reducible repeat (first | apply Kd.R_alloc | apply Kd.R_drewN | apply Kd.R_drew)); exact HO105.out) (Kd.R_typed (by (with_reducible repeat (first | apply Kd.R_alloc | apply Kd.R_drewN | apply Kd.R_drew)); exact HO108.out)) (by decide) hg)
      have n2_ := Aside0.mk (Kd.R_after (ok := (fun _ => True)) (by (with_reducible repeat (first | apply Kd.R_alloc | apply Kd.R_drewN | apply Kd.R_drew)); exact HO114.out) hg hat)
      have n3_ := Aside0.mk (hb)
      have n4_ := Aside0.mk (ho)
      clear BK101
      clear HO105
      clear HO114
      clear HB
      clear HO108
      have BK101 := n0_
      have HO105 := n1_
      have HO114 := n2_
      have HB := n3_
      have HO111 := n4_
      clear n0_ n1_ n2_ n3_ n4_
      clear ho hb hg hat
      refine hK.out _ _ ⟨(blk_cell BK101.out 0).trans rfl, (blk_cell BK101.out 1).trans rfl⟩ (fun hHeld => ?_)
      clear hK K
      refine norm_ (a' := ?_) ?_ ?_
      rotate_left
      ·show Act.put _ (some 26) _ = _
       simp only [Act.put, List.setIfInBounds_toArray, List.set_cons_zero, List.set_cons_succ, i64_w, i32_w]
       rfl
      exact norm_ (by simp only [putAll, Act.put, List.setIfInBounds_toArray, List.set_cons_zero, List.set_cons_succ]) (hCont (v107, v110, v113) _ ⟨hHeld, (by (with_reducible repeat (first | apply Kd.R_alloc | apply Kd.R_drewN | apply Kd.R_drew)); exact HO105.out), (by (with_reducible repeat (first | apply Kd.R_alloc | apply Kd.R_drewN | apply Kd.R_drew)); exact HO111.out), (by (with_reducible repeat (first | apply Kd.R_alloc | apply Kd.R_drewN | apply Kd.R_drew)); exact Kd.R_mono HO114.out (fun _ hk => hk.2)), (by (with_reducible repeat (first | refine blk_drewN ?_ _ | refine blk_drew ?_ | refine blk_alloc ?_ _)); exact BK101.out), (by repeat (first | (with_reducible first | exact HB.out | apply below_alloc | apply pw_below_drewN | apply below_drew1 | refine below_set ?_ GE101.out) | exact HB.out))⟩)
    rintro ⟨v107, v110, v113⟩ w26 ⟨hS_, h0_, h1_, h2_, h3_, h4_⟩
    have n0_ : Aside0 (Kd.R (Kd.int .i64) 3 w26 w.heap.size (fun _ => True) v104 t103) := ⟨h0_⟩
    have n1_ : Aside0 (Kd.R Kd.string 9 w26 w.heap.size (fun k_ => some k_ ≠ (v113 : Value).ownBlock) v110 y109) := ⟨h1_⟩
    have n2_ : Aside0 (Kd.R Kd.string 9 w26 w.heap.size (fun k_ => some k_ ≠ (v110 : Value).ownBlock) v113 y112) := ⟨h2_⟩
    have n3_ : Aside0 (w26.heap[gb101]? = some (.cells #[.string a0_0, .slice A0_1 l0_1.length c0_1] 24 (0, 0))) := ⟨h3_⟩
    have n4_ : Aside0 (Below w.heap.size w w26) := ⟨h4_⟩
    clear HO105
    clear BK101
    clear HB
    clear h0_ h1_ h2_ h3_ h4_
    have HO105 := n0_
    have HO111 := n1_
    have HO114 := n2_
    have BK101 := n3_
    have HB := n4_
    clear n0_ n1_ n2_ n3_ n4_
    have hHeld : w26.cell? ⟨gb101, 0, none⟩ = some (.string a0_0) ∧ w26.cell? ⟨gb101, 1, none⟩ = some (.slice A0_1 l0_1.length c0_1) := hS_
    obtain ⟨Ao28, co28, eo28⟩ := Kd.R_slice HO114.out
    (first | subst eo28 | (injection eo28 with f1_ f2_ f3_; have f4_ := f1_.symm; have f5_ := f3_.symm; clear f1_ f2_ f3_; subst f4_; subst f5_))
    refine norm_ (a' := ?_) ?_ ?_
    rotate_left
    ·simp only [putAll, Act.put, List.setIfInBounds_toArray, List.set_cons_zero, List.set_cons_succ]
     rfl
    refine one_ (i := 6) (N := some 29) #[true, true, true, true, true, true, true, false, false] rfl rfl (one_of HT_.out (by kernel_rfl)) (by decide) (fun K hK => ?_)
    refine Kd.R_append_rows_step Kd.string (w0 := w) w.heap.size (by rfl) (.tmp 26) (.tmp 28) 28 9 (.string ⟨#[]⟩) 16 rfl Try.underlying28 info9 rfl (by decide) (by omega) v110 y109 y112 _ _ _ (fun k_ => some k_ ≠ (.slice Ao28 y112.length co28 : Value).ownBlock) (fun _ => False) rfl rfl ?aO ?aR (fun _ _ h => h) (fun _ h => h.elim) ?aF ?aB ?aS ?aL ?_
    (case aR => repeat (first | exact (Kd.R_reads' HO114.out).2.2 | (with_reducible refine Kd.C_alloc ?_ _) | (with_reducible refine Kd.C_drewN ?_ _) | (with_reducible refine Kd.C_drew ?_)))
    (case aB => exact (by repeat (first | (with_reducible first | exact HB.out | apply below_alloc | apply pw_below_drewN | apply below_drew1 | refine below_set ?_ GE101.out) | exact HB.out)))
    (case aF => exact (fun k_ hk => Kd.fresh' (Kd.R_lt (by (with_reducible repeat (first | apply Kd.R_alloc | apply Kd.R_drewN | apply Kd.R_drew)); exact HO114.out)) k_ hk))
    (case aO => exact (by (with_reducible repeat (first | apply Kd.R_alloc | apply Kd.R_drewN | apply Kd.R_drew)); exact HO111.out))
    (case aS => exact (below_size (by repeat (first | (with_reducible first | exact HB.out | apply below_alloc | apply pw_below_drewN | apply below_drew1 | refine below_set ?_ GE101.out) | exact HB.out))))
    (case aL => have := LMc11.out; omega)
    intro v116 w27 ho hb hg hat
    rw [← Ny115.out] at ho
    have n0_ := Aside0.mk (blk_grown (g := gb101) (o := .cells #[.string a0_0, .slice A0_1 l0_1.length c0_1] 24 (0, 0)) (by (with_reducible repeat (first | refine blk_drewN ?_ _ | refine blk_drew ?_ | refine blk_alloc ?_ _)); exact BK101.out) hg (Kd.R_ne HO111.out BK101.out (by decide)))
    have n1_ := Aside0.mk (Kd.R_over' (by (with_reducible repeat (first | apply Kd.R_alloc | apply Kd.R_drewN | apply Kd.R_drew)); exact HO105.out) (Kd.R_typed (by (with_reducible repeat (first | apply Kd.R_alloc | apply Kd.R_drewN | apply Kd.R_drew)); exact HO111.out)) (by decide) hg)
    have n2_ := Aside0.mk (Kd.R_after (ok := (fun _ => True)) (by (with_reducible repeat (first | apply Kd.R_alloc | apply Kd.R_drewN | apply Kd.R_drew)); exact Kd.R_mono HO114.out (fun _ hk => ⟨trivial, hk⟩)) hg hat)
    have n3_ := Aside0.mk (hb)
    have n4_ := Aside0.mk (ho)
    clear BK101
    clear HO105
    clear HO114
    clear HB
    clear HO111
    have BK101 := n0_
    have HO105 := n1_
    have HO114 := n2_
    have HB := n3_
    have HO117 := n4_
    clear n0_ n1_ n2_ n3_ n4_
    clear ho hb hg hat
    obtain ⟨Ao29, co29, eo29⟩ := Kd.R_slice HO117.out
    (first | subst eo29 | (injection eo29 with f1_ f2_ f3_; have f4_ := f1_.symm; have f5_ := f3_.symm; clear f1_ f2_ f3_; subst f4_; subst f5_))
    refine hK.out _ _ ⟨(blk_cell BK101.out 0).trans rfl, (blk_cell BK101.out 1).trans rfl⟩ (fun hHeld => ?_)
    clear hK K
    refine norm_ (a' := ?_) ?_ ?_
    rotate_left
    ·show Act.put _ (some 29) _ = _
     simp only [Act.put, List.setIfInBounds_toArray, List.set_cons_zero, List.set_cons_succ, i64_w, i32_w]
     rfl
    refine one_ (i := 7) (N := some 30) #[true, true, true, true, true, true, true, true, false] rfl rfl (one_of HT_.out (by kernel_rfl)) (by decide) (fun K hK => ?_)
    refine goes_ Try.func20 (by kernel_rfl) rfl #[.agg #[.string a0_0, .slice A0_1 l0_1.length c0_1], .slice Ao29 y115.length co29] (by rfl) rfl rfl (by (try simp only [List.map_toArray, List.map_cons, List.map_nil]); first | done | rfl | (simp only [List.length_drop, List.length_take]; rfl)) ?_
    with_reducible refine (plan_Cols.calls k a0_0 _ _ l0_1 _ _ y115 t118 _ ?side1 ?side2 ?side3 ?side4 A12.out).mono ?_
    (case side1 => repeat (first | exact (Kd.C_below HR0_1.out HB.out) | (with_reducible refine Kd.C_alloc ?_ _) | (with_reducible refine Kd.C_drewN ?_ _) | (with_reducible refine Kd.C_drew ?_)))
    (case side2 => exact HC0_1.out)
    (case side3 => repeat (first | exact (Kd.R_reads' HO117.out).2.2 | (with_reducible refine Kd.C_alloc ?_ _) | (with_reducible refine Kd.C_drewN ?_ _) | (with_reducible refine Kd.C_drew ?_)))
    (case side4 => exact (Kd.R_reads' HO117.out).2.1)
    rintro e w30 ⟨v119, rfl, ho0, hb⟩
    refine ⟨_, rfl, ?_⟩
    have n0_ := Aside0.mk (Kd.R_elder' (by (with_reducible repeat (first | apply Kd.R_alloc | apply Kd.R_drewN | apply Kd.R_drew)); exact HO105.out) (Kd.R_base ho0) hb)
    have n1_ := Aside0.mk (Kd.R_below (by (with_reducible repeat (first | apply Kd.R_alloc | apply Kd.R_drewN | apply Kd.R_drew)); exact HO114.out) hb)
    have n2_ := Aside0.mk (Kd.R_below (by (with_reducible repeat (first | apply Kd.R_alloc | apply Kd.R_drewN | apply Kd.R_drew)); exact HO117.out) hb)
    have n3_ := Aside0.mk (Kd.R_lower (Kd.R_new' ho0 (Kd.R_lt (by (with_reducible repeat (first | apply Kd.R_alloc | apply Kd.R_drewN | apply Kd.R_drew)); exact HO105.out))) (below_size (by repeat (first | (with_reducible first | exact HB.out | apply below_alloc | apply pw_below_drewN | apply below_drew1 | refine below_set ?_ GE101.out) | exact HB.out))))
    have n4_ := Aside0.mk (blk_below (g := gb101) (o := .cells #[.string a0_0, .slice A0_1 l0_1.length c0_1] 24 (0, 0)) (by (with_reducible repeat (first | refine blk_drewN ?_ _ | refine blk_drew ?_ | refine blk_alloc ?_ _)); exact BK101.out) hb)
    have n5_ := Aside0.mk (below_step (by repeat (first | (with_reducible first | exact HB.out | apply below_alloc | apply pw_below_drewN | apply below_drew1 | refine below_set ?_ GE101.out) | exact HB.out)) hb)
    clear HO105
    clear HO114
    clear HO117
    clear BK101
    clear HB
    have HO105 := n0_
    have HO114 := n1_
    have HO117 := n2_
    have HO120 := n3_
    have BK101 := n4_
    have HB := n5_
    clear n0_ n1_ n2_ n3_ n4_ n5_
    (try clear hb)
    (try clear hb2)
    (try clear hk)
    (try clear hi)
    (try clear ho0)
    refine hK.out _ _ ⟨(blk_cell BK101.out 0).trans rfl, (blk_cell BK101.out 1).trans rfl⟩ (fun hHeld => ?_)
    clear hK K
    refine norm_ (a' := ?_) ?_ ?_
    rotate_left
    ·show Act.put _ (some 30) _ = _
     simp only [Act.put, List.setIfInBounds_toArray, List.set_cons_zero, List.set_cons_succ, i64_w, i32_w]
     rfl
    refine pure_ (i := 8) (N := some 9) (v := ?_) (a' := ?_) #[true, true, true, true, true, true, true, true, true] rfl rfl (any_of HT_.out (by kernel_rfl)) (fun _ _ _ h => h) (Or.inl ⟨by rfl, ?_⟩) ?_ ?_
    rotate_left
    ·intro w'
     go_simp
     with_reducible rfl
    rotate_left
    ·simp only [Act.put, List.setIfInBounds_toArray, List.set_cons_zero, List.set_cons_succ, i64_w, i32_w]
     rfl
    refine done_ (done_of HT_.out (by kernel_rfl)) ?_
    try go_wp2
    have n0_ := Aside0.mk (Kd.R_drew HO105.out)
    have n1_ := Aside0.mk (Kd.R_drew HO114.out)
    have n2_ := Aside0.mk (Kd.R_drew HO117.out)
    have n3_ := Aside0.mk (Kd.R_drew HO120.out)
    have n4_ := Aside0.mk (blk_drew BK101.out)
    have n5_ := Aside0.mk (below_drew1 HB.out)
    clear HO105
    clear HO114
    clear HO117
    clear HO120
    clear BK101
    clear HB
    have HO105 := n0_
    have HO114 := n1_
    have HO117 := n2_
    have HO120 := n3_
    have BK101 := n4_
    have HB := n5_
    clear n0_ n1_ n2_ n3_ n4_ n5_
    refine start_ (n := 5) (S := fun w' => w'.cell? ⟨gb101, 0, none⟩ = some (.string a0_0) ∧ w'.cell? ⟨gb101, 1, none⟩ = some (.slice A0_1 l0_1.length c0_1)) (ds := []) #[false, false, false, false, false] (by kernel_rfl) rfl rfl ⟨(blk_cell BK101.out 0).trans rfl, (blk_cell BK101.out 1).trans rfl⟩ (fun hHeld => ?_)
    generalize w30.drew = w31 at HO105 HO114 HO117 HO120 BK101 HB hHeld ⊢
    refine take_ (i := 0) (N := some 31) (v := ?_) (a' := ?_) #[true, false, false, false, false] rfl rfl (by kernel_rfl) (fun _ _ _ h => h) (Or.inl ⟨by rfl, ?_⟩) hHeld ?_ ?_
    rotate_left
    ·rintro w' ⟨s0, s1⟩
     go_simp
     with_reducible rfl
    rotate_left
    ·simp only [Act.put, List.setIfInBounds_toArray, List.set_cons_zero, List.set_cons_succ, i64_w, i32_w]
     rfl
    refine take_ (i := 1) (N := some 32) (v := ?_) (a' := ?_) #[true, true, false, false, false] rfl rfl (by kernel_rfl) (fun _ _ _ h => h) (Or.inl ⟨by rfl, ?_⟩) hHeld ?_ ?_
    rotate_left
    ·rintro w' ⟨s0, s1⟩
     go_simp
     with_reducible rfl
    rotate_left
    ·simp only [Act.put, List.setIfInBounds_toArray, List.set_cons_zero, List.set_cons_succ, i64_w, i32_w]
     rfl
    refine one_ (i := 2) (N := some 33) #[true, true, true, false, false] rfl rfl (by kernel_rfl) (by decide) (fun K hK => ?_)
    refine goes_ Try.func22 (by kernel_rfl) rfl #[.agg #[.string a0_0, .slice A0_1 l0_1.length c0_1]] (by rfl) rfl rfl (by (try simp only [List.map_toArray, List.map_cons, List.map_nil]); first | done | rfl | (simp only [List.length_drop, List.length_take]; rfl)) ?_
    with_reducible refine (lambrequinref09_Vars.calls k a0_0 _ _ l0_1 t121 _ ?side1 ?side2 A13.out).mono ?_
    (case side1 => repeat (first | exact (Kd.C_below HR0_1.out HB.out) | (with_reducible refine Kd.C_alloc ?_ _) | (with_reducible refine Kd.C_drewN ?_ _) | (with_reducible refine Kd.C_drew ?_)))
    (case side2 => exact HC0_1.out)
    rintro e w32 ⟨v122, rfl, ho0, hb⟩
    refine ⟨_, rfl, ?_⟩
    have n0_ := Aside0.mk (Kd.R_below (by (with_reducible repeat (first | apply Kd.R_alloc | apply Kd.R_drewN | apply Kd.R_drew)); exact HO105.out) hb)
    have n1_ := Aside0.mk (Kd.R_elder' (by (with_reducible repeat (first | apply Kd.R_alloc | apply Kd.R_drewN | apply Kd.R_drew)); exact HO114.out) (Kd.R_base ho0) hb)
    have n2_ := Aside0.mk (Kd.R_elder' (by (with_reducible repeat (first | apply Kd.R_alloc | apply Kd.R_drewN | apply Kd.R_drew)); exact HO117.out) (Kd.R_base ho0) hb)
    have n3_ := Aside0.mk (Kd.R_below (by (with_reducible repeat (first | apply Kd.R_alloc | apply Kd.R_drewN | apply Kd.R_drew)); exact HO120.out) hb)
    have n4_ := Aside0.mk (Kd.R_lower (Kd.R_new' (Kd.R_new' ho0 (Kd.R_lt (by (with_reducible repeat (first | apply Kd.R_alloc | apply Kd.R_drewN | apply Kd.R_drew)); exact HO114.out))) (Kd.R_lt (by (with_reducible repeat (first | apply Kd.R_alloc | apply Kd.R_drewN | apply Kd.R_drew)); exact HO117.out))) (below_size (by repeat (first | (with_reducible first | exact HB.out | apply below_alloc | apply pw_below_drewN | apply below_drew1 | refine below_set ?_ GE101.out) | exact HB.out))))
    have n5_ := Aside0.mk (blk_below (g := gb101) (o := .cells #[.string a0_0, .slice A0_1 l0_1.length c0_1] 24 (0, 0)) (by (with_reducible repeat (first | refine blk_drewN ?_ _ | refine blk_drew ?_ | refine blk_alloc ?_ _)); exact BK101.out) hb)
    have n6_ := Aside0.mk (below_step (by repeat (first | (with_reducible first | exact HB.out | apply below_alloc | apply pw_below_drewN | apply below_drew1 | refine below_set ?_ GE101.out) | exact HB.out)) hb)
    clear HO105
    clear HO114
    clear HO117
    clear HO120
    clear BK101
    clear HB
    have HO105 := n0_
    have HO114 := n1_
    have HO117 := n2_
    have HO120 := n3_
    have HO123 := n4_
    have BK101 := n5_
    have HB := n6_
    clear n0_ n1_ n2_ n3_ n4_ n5_ n6_
    (try clear hb)
    (try clear hb2)
    (try clear hk)
    (try clear hi)
    (try clear ho0)
    obtain ⟨Ao33, co33, eo33⟩ := Kd.R_slice HO123.out
    (first | subst eo33 | (injection eo33 with f1_ f2_ f3_; have f4_ := f1_.symm; have f5_ := f3_.symm; clear f1_ f2_ f3_; subst f4_; subst f5_))
    refine hK.out _ _ ⟨(blk_cell BK101.out 0).trans rfl, (blk_cell BK101.out 1).trans rfl⟩ (fun hHeld => ?_)
    clear hK K
    refine norm_ (a' := ?_) ?_ ?_
    rotate_left
    ·show Act.put _ (some 33) _ = _
     simp only [Act.put, List.setIfInBounds_toArray, List.set_cons_zero, List.set_cons_succ, i64_w, i32_w]
     rfl
    refine one_ (i := 3) (N := some 34) #[true, true, true, true, false] rfl rfl (by kernel_rfl) (by decide) (fun K hK => ?_)
    refine goes_ Try.func20 (by kernel_rfl) rfl #[.agg #[.string a0_0, .slice A0_1 l0_1.length c0_1], .slice Ao33 t121.length co33] (by rfl) rfl rfl (by (try simp only [List.map_toArray, List.map_cons, List.map_nil]); first | done | rfl | (simp only [List.length_drop, List.length_take]; rfl)) ?_
    with_reducible refine (plan_Cols.calls k a0_0 _ _ l0_1 _ _ t121 t124 _ ?side1 ?side2 ?side3 ?side4 A14.out).mono ?_
    (case side1 => repeat (first | exact (Kd.C_below HR0_1.out HB.out) | (with_reducible refine Kd.C_alloc ?_ _) | (with_reducible refine Kd.C_drewN ?_ _) | (with_reducible refine Kd.C_drew ?_)))
    (case side2 => exact HC0_1.out)
    (case side3 => repeat (first | exact (Kd.R_reads' HO123.out).2.2 | (with_reducible refine Kd.C_alloc ?_ _) | (with_reducible refine Kd.C_drewN ?_ _) | (with_reducible refine Kd.C_drew ?_)))
    (case side4 => exact (Kd.R_reads' HO123.out).2.1)
    rintro e w34 ⟨v125, rfl, ho0, hb⟩
    refine ⟨_, rfl, ?_⟩
    have n0_ := Aside0.mk (Kd.R_elder' (by (with_reducible repeat (first | apply Kd.R_alloc | apply Kd.R_drewN | apply Kd.R_drew)); exact HO105.out) (Kd.R_base ho0) hb)
    have n1_ := Aside0.mk (Kd.R_below (by (with_reducible repeat (first | apply Kd.R_alloc | apply Kd.R_drewN | apply Kd.R_drew)); exact HO114.out) hb)
    have n2_ := Aside0.mk (Kd.R_below (by (with_reducible repeat (first | apply Kd.R_alloc | apply Kd.R_drewN | apply Kd.R_drew)); exact HO117.out) hb)
    have n3_ := Aside0.mk (Kd.R_elder' (by (with_reducible repeat (first | apply Kd.R_alloc | apply Kd.R_drewN | apply Kd.R_drew)); exact HO120.out) (Kd.R_base ho0) hb)
    have n4_ := Aside0.mk (Kd.R_below (by (with_reducible repeat (first | apply Kd.R_alloc | apply Kd.R_drewN | apply Kd.R_drew)); exact HO123.out) hb)
    have n5_ := Aside0.mk (Kd.R_lower (Kd.R_new' (Kd.R_new' ho0 (Kd.R_lt (by (with_reducible repeat (first | apply Kd.R_alloc | apply Kd.R_drewN | apply Kd.R_drew)); exact HO105.out))) (Kd.R_lt (by (with_reducible repeat (first | apply Kd.R_alloc | apply Kd.R_drewN | apply Kd.R_drew)); exact HO120.out))) (below_size (by repeat (first | (with_reducible first | exact HB.out | apply below_alloc | apply pw_below_drewN | apply below_drew1 | refine below_set ?_ GE101.out) | exact HB.out))))
    have n6_ := Aside0.mk (blk_below (g := gb101) (o := .cells #[.string a0_0, .slice A0_1 l0_1.length c0_1] 24 (0, 0)) (by (with_reducible repeat (first | refine blk_drewN ?_ _ | refine blk_drew ?_ | refine blk_alloc ?_ _)); exact BK101.out) hb)
    have n7_ := Aside0.mk (below_step (by repeat (first | (with_reducible first | exact HB.out | apply below_alloc | apply pw_below_drewN | apply below_drew1 | refine below_set ?_ GE101.out) | exact HB.out)) hb)
    clear HO105
    clear HO114
    clear HO117
    clear HO120
    clear HO123
    clear BK101
    clear HB
    have HO105 := n0_
    have HO114 := n1_
    have HO117 := n2_
    have HO120 := n3_
    have HO123 := n4_
    have HO126 := n5_
    have BK101 := n6_
    have HB := n7_
    clear n0_ n1_ n2_ n3_ n4_ n5_ n6_ n7_
    (try clear hb)
    (try clear hb2)
    (try clear hk)
    (try clear hi)
    (try clear ho0)
    refine hK.out _ _ ⟨(blk_cell BK101.out 0).trans rfl, (blk_cell BK101.out 1).trans rfl⟩ (fun hHeld => ?_)
    clear hK K
    refine norm_ (a' := ?_) ?_ ?_
    rotate_left
    ·show Act.put _ (some 34) _ = _
     simp only [Act.put, List.setIfInBounds_toArray, List.set_cons_zero, List.set_cons_succ, i64_w, i32_w]
     rfl
    refine pure_ (i := 4) (N := some 10) (v := ?_) (a' := ?_) #[true, true, true, true, true] rfl rfl (by kernel_rfl) (fun _ _ _ h => h) (Or.inl ⟨by rfl, ?_⟩) ?_ ?_
    rotate_left
    ·intro w'
     go_simp
     with_reducible rfl
    rotate_left
    ·simp only [Act.put, List.setIfInBounds_toArray, List.set_cons_zero, List.set_cons_succ, i64_w, i32_w]
     rfl
    refine done_ (by kernel_rfl) ?_
    have hcz35_0 : w34.cell? ⟨gb101, 0, none⟩ = some (.string a0_0) := (blk_cell BK101.out 0).trans rfl
    have hcz35_1 : w34.cell? ⟨gb101, 1, none⟩ = some (.slice A0_1 l0_1.length c0_1) := (blk_cell BK101.out 1).trans rfl
    have hfz35_0 := blk_frozen BK101.out 0
    have hfz35_1 := blk_frozen BK101.out 1
    try go_wp2_with (first | ((with_reducible refine gate_callee (f := 20) rfl ?_); refine goesL_ (some 36) rfl rfl Try.func20 (by kernel_rfl) rfl #[.agg #[.string a0_0, .slice A0_1 l0_1.length c0_1], .slice none 0 0] rfl (by (try simp only [List.map_toArray, List.map_cons, List.map_nil]); first | done | rfl | (simp only [List.length_drop, List.length_take]; rfl)) ?_; (refine (plan_Cols.calls k a0_0 _ _ l0_1 _ _ ([] : List ByteArray) t127 _ ?side1 ?side2 ?side3 ?side4 A15.out).mono ?_); (case side1 => repeat (first | exact (Kd.C_below HR0_1.out HB.out) | (with_reducible refine Kd.C_alloc ?_ _) | (with_reducible refine Kd.C_drewN ?_ _) | (with_reducible refine Kd.C_drew ?_))); (case side2 => exact HC0_1.out); (case side3 => exact Kd.C_nil _ _); (case side4 => exact Nat.le_refl _); rintro e w36 ⟨v128, rfl, ho0, hb⟩; refine ⟨_, rfl, ?_⟩; have n0_ := Aside0.mk (Kd.R_elder' (by (with_reducible repeat (first | apply Kd.R_alloc | apply Kd.R_drewN | apply Kd.R_drew)); exact HO105.out) (Kd.R_base ho0) hb); have n1_ := Aside0.mk (Kd.R_below (by (with_reducible repeat (first | apply Kd.R_alloc | apply Kd.R_drewN | apply Kd.R_drew)); exact HO114.out) hb); have n2_ := Aside0.mk (Kd.R_below (by (with_reducible repeat (first | apply Kd.R_alloc | apply Kd.R_drewN | apply Kd.R_drew)); exact HO117.out) hb); have n3_ := Aside0.mk (Kd.R_elder' (by (with_reducible repeat (first | apply Kd.R_alloc | apply Kd.R_drewN | apply Kd.R_drew)); exact HO120.out) (Kd.R_base ho0) hb); have n4_ := Aside0.mk (Kd.R_below (by (with_reducible repeat (first | apply Kd.R_alloc | apply Kd.R_drewN | apply Kd.R_drew)); exact HO123.out) hb); have n5_ := Aside0.mk (Kd.R_elder' (by (with_reducible repeat (first | apply Kd.R_alloc | apply Kd.R_drewN | apply Kd.R_drew)); exact HO126.out) (Kd.R_base ho0) hb); have n6_ := Aside0.mk (Kd.R_lower (Kd.R_new' (Kd.R_new' (Kd.R_new' ho0 (Kd.R_lt (by (with_reducible repeat (first | apply Kd.R_alloc | apply Kd.R_drewN | apply Kd.R_drew)); exact HO105.out))) (Kd.R_lt (by (with_reducible repeat (first | apply Kd.R_alloc | apply Kd.R_drewN | apply Kd.R_drew)); exact HO120.out))) (Kd.R_lt (by (with_reducible repeat (first | apply Kd.R_alloc | apply Kd.R_drewN | apply Kd.R_drew)); exact HO126.out))) (below_size (by repeat (first | (with_reducible first | exact HB.out | apply below_alloc | apply pw_below_drewN | apply below_drew1 | refine below_set ?_ GE101.out) | exact HB.out)))); have n7_ := Aside0.mk (blk_below (g := gb101) (o := .cells #[.string a0_0, .slice A0_1 l0_1.length c0_1] 24 (0, 0)) (by (with_reducible repeat (first | refine blk_drewN ?_ _ | refine blk_drew ?_ | refine blk_alloc ?_ _)); exact BK101.out) hb); have n8_ := Aside0.mk (below_step (by repeat (first | (with_reducible first | exact HB.out | apply below_alloc | apply pw_below_drewN | apply below_drew1 | refine below_set ?_ GE101.out) | exact HB.out)) hb); clear HO105; clear HO114; clear HO117; clear HO120; clear HO123; clear HO126; clear BK101; clear HB; have HO105 := n0_; have HO114 := n1_; have HO117 := n2_; have HO120 := n3_; have HO123 := n4_; have HO126 := n5_; have HO129 := n6_; have BK101 := n7_; have HB := n8_; clear n0_ n1_ n2_ n3_ n4_ n5_ n6_ n7_ n8_; (try clear hb); (try clear hb2); (try clear hk); (try clear hi); (try clear ho0)))
    go_loopg [12, 13] k (fun kq v12 v13 w' => ∃ (x12_1 : Int) (x13_1 : Int), v12 = .int .i64 x12_1 ∧ v13 = .int .i64 x13_1 ∧ Aside0 (lambrequinlaw13_PlanCols.l0 kq t102 t103 t118 t124 t127 x12_1 x13_1 a0_0 l0_1 = some r) ∧ Aside0 (kq ≤ k) ∧ Aside0 (Kd.R (Kd.int .i64) 3 w' w.heap.size (fun k_ => some k_ ≠ (v119 : Value).ownBlock ∧ some k_ ≠ (v125 : Value).ownBlock ∧ some k_ ≠ (v128 : Value).ownBlock) v104 t103) ∧ Aside0 (Kd.R (Kd.int .i64) 3 w' w.heap.size (fun k_ => some k_ ≠ (v104 : Value).ownBlock ∧ some k_ ≠ (v125 : Value).ownBlock ∧ some k_ ≠ (v128 : Value).ownBlock) v119 t118) ∧ Aside0 (Kd.R (Kd.int .i64) 3 w' w.heap.size (fun k_ => some k_ ≠ (v104 : Value).ownBlock ∧ some k_ ≠ (v119 : Value).ownBlock ∧ some k_ ≠ (v128 : Value).ownBlock) v125 t124) ∧ Aside0 (Kd.R (Kd.int .i64) 3 w' w.heap.size (fun k_ => some k_ ≠ (v104 : Value).ownBlock ∧ some k_ ≠ (v119 : Value).ownBlock ∧ some k_ ≠ (v125 : Value).ownBlock) v128 t127) ∧ Aside0 (w'.heap[gb101]? = some (.cells #[.string a0_0, (.slice A0_1 l0_1.length c0_1)] 24 (0, 0))) ∧ Aside0 (Below w.heap.size w w'))
    case atStart => exact ⟨(0), (0), (by first | rfl | (simp; done) | (simp [*]; done)), (by first | rfl | (simp; done) | (simp [*]; done)), H', ⟨Nat.le_refl _⟩, ⟨by (with_reducible repeat (first | apply Kd.R_alloc | apply Kd.R_drewN | apply Kd.R_drew)); exact Kd.R_mono HO105.out (fun _ hk => ⟨hk.1.1.2, ⟨hk.1.2, hk.2⟩⟩)⟩, ⟨by (with_reducible repeat (first | apply Kd.R_alloc | apply Kd.R_drewN | apply Kd.R_drew)); exact Kd.R_mono HO120.out (fun _ hk => ⟨hk.1.1.2, ⟨hk.1.2, hk.2⟩⟩)⟩, ⟨by (with_reducible repeat (first | apply Kd.R_alloc | apply Kd.R_drewN | apply Kd.R_drew)); exact Kd.R_mono HO126.out (fun _ hk => ⟨hk.1.1.2, ⟨hk.1.2, hk.2⟩⟩)⟩, ⟨by (with_reducible repeat (first | apply Kd.R_alloc | apply Kd.R_drewN | apply Kd.R_drew)); exact Kd.R_mono HO129.out (fun _ hk => ⟨hk.1.1.2, ⟨hk.1.2, hk.2⟩⟩)⟩, ⟨by (with_reducible repeat (first | refine blk_drewN ?_ _ | refine blk_drew ?_ | refine blk_alloc ?_ _)); exact BK101.out⟩, ⟨by repeat (first | (with_reducible first | exact HB.out | apply below_alloc | apply pw_below_drewN | apply below_drew1 | refine below_set ?_ GE101.out) | exact HB.out)⟩⟩
    case round =>
     clear H'
     try clear c1
     try clear c2
     try clear p2
     try clear c5
     try clear c5b0
     try clear c5b1
     try clear c6
     try clear c10
     try clear c11
     try clear c15
     try clear c20
     try clear c22
     try clear hcz18_0
     try clear hcz18_1
     try clear hcz35_0
     try clear hcz35_1
     try clear hcz8_0
     try clear hcz8_1
     try clear hfz18_0
     try clear hfz18_1
     try clear hfz35_0
     try clear hfz35_1
     try clear hfz8_0
     try clear hfz8_1
     obtain ⟨x12_1, x13_1, rfl, rfl, HA, HK1, HO_8, HO_9, HO_10, HO_11, BK101, HB⟩ := hrel
     cases gk with
     | zero => exact absurd HA.out (by simp [lambrequinlaw13_PlanCols.l0])
     | succ k1 =>
      have H := HA.out
      clear HA
      simp only [lambrequinlaw13_PlanCols.l0] at H
      by_cases c37 : x13_1 < (l0_1.length : Int)
      ·rw [if_pos c37] at H
       have c37b0 : decide (x13_1 < (l0_1.length : Int)) = true := decide_eq_true c37
       clear c37
       by_cases c38 : 0 ≤ x13_1
       ·rw [if_pos c38] at H
        have c38b0 : decide (0 ≤ x13_1) = true := decide_eq_true c38
        clear c38
        obtain ⟨bq39, hbq39⟩ : ∃ b_ : Bool, b_ = ((rd_T45 l0_1 x13_1).isVar) := ⟨_, rfl⟩
        replace H : (if (bq39 = true) then (lambrequinlaw13_PlanCols.l0 k1 t102 t103 t118 t124 t127 x12_1 (wrap64 (x13_1 + 1)) a0_0 l0_1) else (lambrequinlaw13_PlanCols.l0 k1 t102 t103 t118 t124 t127 (wrap64 (x12_1 + 1)) (wrap64 (x13_1 + 1)) a0_0 l0_1)) = some r := by rw [← hbq39] at H; exact H
        have Nbq39 := Aside0.mk hbq39
        clear hbq39
        by_cases c40 : (bq39 = true)
        ·subst c40
         have H1 : (lambrequinlaw13_PlanCols.l0 k1 t102 t103 t118 t124 t127 x12_1 (wrap64 (x13_1 + 1)) a0_0 l0_1) = some r := by rw [if_pos rfl] at H; exact H
         clear H
         have H := H1
         clear H1
         have H' := Aside0.mk H
         clear H
         have hcz41_0 : wr.cell? ⟨gb101, 0, none⟩ = some (.string a0_0) := (blk_cell BK101.out 0).trans rfl
         have hcz41_1 : wr.cell? ⟨gb101, 1, none⟩ = some (.slice A0_1 l0_1.length c0_1) := (blk_cell BK101.out 1).trans rfl
         have hfz41_0 := blk_frozen BK101.out 0
         have hfz41_1 := blk_frozen BK101.out 1
         have p130 : 0 ≤ (x13_1 : Int) := of_decide_eq_true (by first | (with_reducible assumption) | assumption)
         have q130 : x13_1 < (l0_1.length : Int) := of_decide_eq_true (by first | (with_reducible assumption) | assumption)
         obtain ⟨ad130, e130, hx130_0, hx130_1, hx130_2, hx130_3, hx130_4⟩ := at_T45 HR0_1.out x13_1 p130 q130
         (try rw [← Nbq39.out] at hx130_0)
         (try rw [← Nbq39.out] at hx130_2)
         cases e130
         replace hx130_0 := (HB.out.cell (blt_ hx130_0)).trans hx130_0
         replace hx130_1 := (HB.out.cell (blt_ hx130_1)).trans hx130_1
         replace hx130_2 := (HB.out.cell (blt_ hx130_2)).trans hx130_2
         replace hx130_3 := (HB.out.cell (blt_ hx130_3)).trans hx130_3
         replace hx130_4 := (HB.out.cell (blt_ hx130_4)).trans hx130_4
         replace p130 := eq_true p130
         replace q130 := eq_true q130
         go_wp2
         go_roundg k1
         case measure => have := HK1.out; omega
         case rel => exact ⟨(x12_1), (wrap64 (x13_1 + 1)), (by first | rfl | (simp; done) | (simp [*]; done)), (by first | rfl | (simp; done) | (simp [*]; done)), H', ⟨by have := HK1.out; omega⟩, ⟨by (with_reducible repeat (first | apply Kd.R_alloc | apply Kd.R_drewN | apply Kd.R_drew)); exact HO_8.out⟩, ⟨by (with_reducible repeat (first | apply Kd.R_alloc | apply Kd.R_drewN | apply Kd.R_drew)); exact HO_9.out⟩, ⟨by (with_reducible repeat (first | apply Kd.R_alloc | apply Kd.R_drewN | apply Kd.R_drew)); exact HO_10.out⟩, ⟨by (with_reducible repeat (first | apply Kd.R_alloc | apply Kd.R_drewN | apply Kd.R_drew)); exact HO_11.out⟩, ⟨by (with_reducible repeat (first | refine blk_drewN ?_ _ | refine blk_drew ?_ | refine blk_alloc ?_ _)); exact BK101.out⟩, ⟨by repeat (first | (with_reducible first | exact HB.out | apply below_alloc | apply pw_below_drewN | apply below_drew1 | refine below_set ?_ GE101.out) | exact HB.out)⟩⟩
        ·replace c40 := Bool.eq_false_iff.mpr c40
         subst c40
         have H1 : (lambrequinlaw13_PlanCols.l0 k1 t102 t103 t118 t124 t127 (wrap64 (x12_1 + 1)) (wrap64 (x13_1 + 1)) a0_0 l0_1) = some r := by rw [if_neg (show ¬ (false = true) by decide)] at H; exact H
         clear H
         have H := H1
         clear H1
         have H' := Aside0.mk H
         clear H
         have hcz42_0 : wr.cell? ⟨gb101, 0, none⟩ = some (.string a0_0) := (blk_cell BK101.out 0).trans rfl
         have hcz42_1 : wr.cell? ⟨gb101, 1, none⟩ = some (.slice A0_1 l0_1.length c0_1) := (blk_cell BK101.out 1).trans rfl
         have hfz42_0 := blk_frozen BK101.out 0
         have hfz42_1 := blk_frozen BK101.out 1
         have p130 : 0 ≤ (x13_1 : Int) := of_decide_eq_true (by first | (with_reducible assumption) | assumption)
         have q130 : x13_1 < (l0_1.length : Int) := of_decide_eq_true (by first | (with_reducible assumption) | assumption)
         obtain ⟨ad130, e130, hx130_0, hx130_1, hx130_2, hx130_3, hx130_4⟩ := at_T45 HR0_1.out x13_1 p130 q130
         (try rw [← Nbq39.out] at hx130_0)
         (try rw [← Nbq39.out] at hx130_2)
         cases e130
         replace hx130_0 := (HB.out.cell (blt_ hx130_0)).trans hx130_0
         replace hx130_1 := (HB.out.cell (blt_ hx130_1)).trans hx130_1
         replace hx130_2 := (HB.out.cell (blt_ hx130_2)).trans hx130_2
         replace hx130_3 := (HB.out.cell (blt_ hx130_3)).trans hx130_3
         replace hx130_4 := (HB.out.cell (blt_ hx130_4)).trans hx130_4
         replace p130 := eq_true p130
         replace q130 := eq_true q130
         go_wp2
         go_roundg k1
         case measure => have := HK1.out; omega
         case rel => exact ⟨(wrap64 (x12_1 + 1)), (wrap64 (x13_1 + 1)), (by first | rfl | (simp; done) | (simp [*]; done)), (by first | rfl | (simp; done) | (simp [*]; done)), H', ⟨by have := HK1.out; omega⟩, ⟨by (with_reducible repeat (first | apply Kd.R_alloc | apply Kd.R_drewN | apply Kd.R_drew)); exact HO_8.out⟩, ⟨by (with_reducible repeat (first | apply Kd.R_alloc | apply Kd.R_drewN | apply Kd.R_drew)); exact HO_9.out⟩, ⟨by (with_reducible repeat (first | apply Kd.R_alloc | apply Kd.R_drewN | apply Kd.R_drew)); exact HO_10.out⟩, ⟨by (with_reducible repeat (first | apply Kd.R_alloc | apply Kd.R_drewN | apply Kd.R_drew)); exact HO_11.out⟩, ⟨by (with_reducible repeat (first | refine blk_drewN ?_ _ | refine blk_drew ?_ | refine blk_alloc ?_ _)); exact BK101.out⟩, ⟨by repeat (first | (with_reducible first | exact HB.out | apply below_alloc | apply pw_below_drewN | apply below_drew1 | refine below_set ?_ GE101.out) | exact HB.out)⟩⟩
       ·rw [if_neg c38] at H
        exact absurd H (by simp)
      ·rw [if_neg c37] at H
       have c37b0 : decide (x13_1 < (l0_1.length : Int)) = false := decide_eq_false c37
       clear c37
       by_cases c43 : t102 = true
       ·subst c43
        have H1 : (if (t103.length : Int) ≤ (t118.length : Int) then (if (t118.length : Int) ≤ (t124.length : Int) then (if (t124.length : Int) = (l0_1.length : Int) then (if (t127.length : Int) = x12_1 then (some (decide (x12_1 ≤ (t103.length : Int)))) else (some false)) else (some false)) else (some false)) else (some false)) = some r := by rw [if_pos rfl] at H; exact H
        clear H
        have H := H1
        clear H1
        by_cases c44 : (t103.length : Int) ≤ (t118.length : Int)
        ·rw [if_pos c44] at H
         have c44b0 : decide ((t103.length : Int) ≤ (t118.length : Int)) = true := decide_eq_true c44
         have c44b1 : decide (t103.length ≤ t118.length) = true := decide_eq_true (Int.ofNat_le.mp c44)
         clear c44
         by_cases c45 : (t118.length : Int) ≤ (t124.length : Int)
         ·rw [if_pos c45] at H
          have c45b0 : decide ((t118.length : Int) ≤ (t124.length : Int)) = true := decide_eq_true c45
          have c45b1 : decide (t118.length ≤ t124.length) = true := decide_eq_true (Int.ofNat_le.mp c45)
          clear c45
          by_cases c46 : (t124.length : Int) = (l0_1.length : Int)
          ·rw [if_pos c46] at H
           have c46b0 : ((t124.length : Int) == (l0_1.length : Int)) = true := beq_iff_eq.mpr c46
           have c46b1 : ((t124.length : Int) != (l0_1.length : Int)) = false := bne_eq_false_iff_eq.mpr c46
           have c46b2 : (t124.length == l0_1.length) = true := by first | simpa using c46 | (simp at c46 ⊢; omega)
           clear c46
           by_cases c47 : (t127.length : Int) = x12_1
           ·rw [if_pos c47] at H
            have c47b0 : ((t127.length : Int) == x12_1) = true := beq_iff_eq.mpr c47
            have c47b1 : ((t127.length : Int) != x12_1) = false := bne_eq_false_iff_eq.mpr c47
            clear c47
            obtain rfl := Option.some.inj H
            have hcz48_0 : wr.cell? ⟨gb101, 0, none⟩ = some (.string a0_0) := (blk_cell BK101.out 0).trans rfl
            have hcz48_1 : wr.cell? ⟨gb101, 1, none⟩ = some (.slice A0_1 l0_1.length c0_1) := (blk_cell BK101.out 1).trans rfl
            have hfz48_0 := blk_frozen BK101.out 0
            have hfz48_1 := blk_frozen BK101.out 1
            obtain ⟨Ao49, co49, eo49⟩ := Kd.R_slice HO_8.out
            subst eo49
            obtain ⟨Ao50, co50, eo50⟩ := Kd.R_slice HO_9.out
            subst eo50
            obtain ⟨Ao51, co51, eo51⟩ := Kd.R_slice HO_10.out
            subst eo51
            obtain ⟨Ao52, co52, eo52⟩ := Kd.R_slice HO_11.out
            subst eo52
            go_wp2
            go_ret
            exact ⟨by first | rfl | (simp [errW_none, errW_some] <;> rfl) | (simp [*, errW_none, errW_some] <;> rfl), by repeat (first | (with_reducible first | exact HB.out | apply below_alloc | apply pw_below_drewN | apply below_drew1 | refine below_set ?_ GE101.out) | exact HB.out)⟩
           ·rw [if_neg c47] at H
            have c47b0 : ((t127.length : Int) == x12_1) = false := beq_eq_false_iff_ne.mpr c47
            have c47b1 : ((t127.length : Int) != x12_1) = true := bne_iff_ne.mpr c47
            obtain rfl := Option.some.inj H
            have hcz53_0 : wr.cell? ⟨gb101, 0, none⟩ = some (.string a0_0) := (blk_cell BK101.out 0).trans rfl
            have hcz53_1 : wr.cell? ⟨gb101, 1, none⟩ = some (.slice A0_1 l0_1.length c0_1) := (blk_cell BK101.out 1).trans rfl
            have hfz53_0 := blk_frozen BK101.out 0
            have hfz53_1 := blk_frozen BK101.out 1
            obtain ⟨Ao54, co54, eo54⟩ := Kd.R_slice HO_8.out
            subst eo54
            obtain ⟨Ao55, co55, eo55⟩ := Kd.R_slice HO_9.out
            subst eo55
            obtain ⟨Ao56, co56, eo56⟩ := Kd.R_slice HO_10.out
            subst eo56
            obtain ⟨Ao57, co57, eo57⟩ := Kd.R_slice HO_11.out
            subst eo57
            go_wp2
            go_ret
            exact ⟨by first | rfl | (simp [errW_none, errW_some] <;> rfl) | (simp [*, errW_none, errW_some] <;> rfl), by repeat (first | (with_reducible first | exact HB.out | apply below_alloc | apply pw_below_drewN | apply below_drew1 | refine below_set ?_ GE101.out) | exact HB.out)⟩
          ·rw [if_neg c46] at H
           have c46b0 : ((t124.length : Int) == (l0_1.length : Int)) = false := beq_eq_false_iff_ne.mpr c46
           have c46b1 : ((t124.length : Int) != (l0_1.length : Int)) = true := bne_iff_ne.mpr c46
           have c46b2 : (t124.length == l0_1.length) = false := by first | simpa using c46 | (simp at c46 ⊢; omega)
           obtain rfl := Option.some.inj H
           have hcz58_0 : wr.cell? ⟨gb101, 0, none⟩ = some (.string a0_0) := (blk_cell BK101.out 0).trans rfl
           have hcz58_1 : wr.cell? ⟨gb101, 1, none⟩ = some (.slice A0_1 l0_1.length c0_1) := (blk_cell BK101.out 1).trans rfl
           have hfz58_0 := blk_frozen BK101.out 0
           have hfz58_1 := blk_frozen BK101.out 1
           obtain ⟨Ao59, co59, eo59⟩ := Kd.R_slice HO_8.out
           subst eo59
           obtain ⟨Ao60, co60, eo60⟩ := Kd.R_slice HO_9.out
           subst eo60
           obtain ⟨Ao61, co61, eo61⟩ := Kd.R_slice HO_10.out
           subst eo61
           go_wp2
           go_ret
           exact ⟨by first | rfl | (simp [errW_none, errW_some] <;> rfl) | (simp [*, errW_none, errW_some] <;> rfl), by repeat (first | (with_reducible first | exact HB.out | apply below_alloc | apply pw_below_drewN | apply below_drew1 | refine below_set ?_ GE101.out) | exact HB.out)⟩
         ·rw [if_neg c45] at H
          have c45b0 : decide ((t118.length : Int) ≤ (t124.length : Int)) = false := decide_eq_false c45
          have c45b1 : decide (t118.length ≤ t124.length) = false := decide_eq_false (fun h => c45 (Int.ofNat_le.mpr h))
          clear c45
          obtain rfl := Option.some.inj H
          have hcz62_0 : wr.cell? ⟨gb101, 0, none⟩ = some (.string a0_0) := (blk_cell BK101.out 0).trans rfl
          have hcz62_1 : wr.cell? ⟨gb101, 1, none⟩ = some (.slice A0_1 l0_1.length c0_1) := (blk_cell BK101.out 1).trans rfl
          have hfz62_0 := blk_frozen BK101.out 0
          have hfz62_1 := blk_frozen BK101.out 1
          obtain ⟨Ao63, co63, eo63⟩ := Kd.R_slice HO_8.out
          subst eo63
          obtain ⟨Ao64, co64, eo64⟩ := Kd.R_slice HO_9.out
          subst eo64
          obtain ⟨Ao65, co65, eo65⟩ := Kd.R_slice HO_10.out
          subst eo65
          go_wp2
          go_ret
          exact ⟨by first | rfl | (simp [errW_none, errW_some] <;> rfl) | (simp [*, errW_none, errW_some] <;> rfl), by repeat (first | (with_reducible first | exact HB.out | apply below_alloc | apply pw_below_drewN | apply below_drew1 | refine below_set ?_ GE101.out) | exact HB.out)⟩
        ·rw [if_neg c44] at H
         have c44b0 : decide ((t103.length : Int) ≤ (t118.length : Int)) = false := decide_eq_false c44
         have c44b1 : decide (t103.length ≤ t118.length) = false := decide_eq_false (fun h => c44 (Int.ofNat_le.mpr h))
         clear c44
         obtain rfl := Option.some.inj H
         have hcz66_0 : wr.cell? ⟨gb101, 0, none⟩ = some (.string a0_0) := (blk_cell BK101.out 0).trans rfl
         have hcz66_1 : wr.cell? ⟨gb101, 1, none⟩ = some (.slice A0_1 l0_1.length c0_1) := (blk_cell BK101.out 1).trans rfl
         have hfz66_0 := blk_frozen BK101.out 0
         have hfz66_1 := blk_frozen BK101.out 1
         obtain ⟨Ao67, co67, eo67⟩ := Kd.R_slice HO_8.out
         subst eo67
         obtain ⟨Ao68, co68, eo68⟩ := Kd.R_slice HO_9.out
         subst eo68
         go_wp2
         go_ret
         exact ⟨by first | rfl | (simp [errW_none, errW_some] <;> rfl) | (simp [*, errW_none, errW_some] <;> rfl), by repeat (first | (with_reducible first | exact HB.out | apply below_alloc | apply pw_below_drewN | apply below_drew1 | refine below_set ?_ GE101.out) | exact HB.out)⟩
       ·replace c43 := Bool.eq_false_iff.mpr c43
        subst c43
        have H1 : (some false) = some r := by rw [if_neg (show ¬ (false = true) by decide)] at H; exact H
        clear H
        have H := H1
        clear H1
        obtain rfl := Option.some.inj H
        have hcz69_0 : wr.cell? ⟨gb101, 0, none⟩ = some (.string a0_0) := (blk_cell BK101.out 0).trans rfl
        have hcz69_1 : wr.cell? ⟨gb101, 1, none⟩ = some (.slice A0_1 l0_1.length c0_1) := (blk_cell BK101.out 1).trans rfl
        have hfz69_0 := blk_frozen BK101.out 0
        have hfz69_1 := blk_frozen BK101.out 1
        go_wp2
        go_ret
        exact ⟨by first | rfl | (simp [errW_none, errW_some] <;> rfl) | (simp [*, errW_none, errW_some] <;> rfl), by repeat (first | (with_reducible first | exact HB.out | apply below_alloc | apply pw_below_drewN | apply below_drew1 | refine below_set ?_ GE101.out) | exact HB.out)⟩
   ·rw [if_neg c11] at H
    exact absurd H (by simp)
  ·rw [if_neg c10] at H
   exact absurd H (by simp)

end Go.Proofs.Ythpejcnldecmoaa.H
/- PlanCols: with more bound more places are known; with all all are, with none just the values. Conditions: the statement's own. -/
namespace Go.Proofs.Ythpejcnldecmoaa.H
open Go.RowKit Go.Proofs.YthpejcnldecmoaaW.PrintWords
set_option linter.unusedVariables false
theorem PlanCols_l0 (p : ByteArray) (l : List Term) (x y z none_ : List Int) (hl : l.length ≤ 50) (h1 : x.length ≤ y.length) (h2 : y.length ≤ z.length) (h3 : z.length = l.length) (h4 : none_.length = l.countP fun t => !t.isVar) (h5 : (l.countP fun t => !t.isVar) ≤ x.length) :
    ∀ (r : List Term) (n v : Nat), l.drop n = r → v + (r.countP fun t => !t.isVar) = l.countP (fun t => !t.isVar) → Ev (fun k => lambrequinlaw13_PlanCols.l0 k true x y z none_ v n p l) true
  | [], n, v, h, e => by
    refine Ev.step (fun k => by rw [lambrequinlaw13_PlanCols.l0]) ?_
    simp at e
    refine Ev.neg (drop_end h) (Ev.pos rfl (Ev.pos (by omega) (Ev.pos (by omega) (Ev.pos (by omega) (Ev.pos (by omega) (Ev.some (by simp; omega)))))))
  | t :: r, n, v, h, e => by
    obtain ⟨g1, g2, g3, g4, g5⟩ := drop_more h (by omega)
    refine Ev.step (fun k => by rw [lambrequinlaw13_PlanCols.l0]) ?_
    refine Ev.pos g1 (Ev.pos g2 ?_)
    rw [show rd_T45 l n = t from g3 _, g5]
    rw [List.countP_cons] at e
    cases ht : t.isVar with
    | true => exact Ev.pos rfl (PlanCols_l0 p l x y z none_ hl h1 h2 h3 h4 h5 r (n + 1) v g4 (by rw [ht] at e; simpa using e))
    | false =>
      have : l.countP (fun t => !t.isVar) ≤ l.length := List.countP_le_length
      rw [ht] at e
      simp at e
      refine Ev.neg (by simp) ?_
      rw [wrap_up (by omega)]
      exact PlanCols_l0 p l x y z none_ hl h1 h2 h3 h4 h5 r (n + 1) (v + 1) g4 (by omega)
theorem PlanCols_pure (x0 : Atom) (n1 : x0.args.length ≤ 9223372036854775807) (x1 : List ByteArray) (y1 : x1.length * 16 ≤ 140737488351232) (a2 : ByteArray) (w2 : a2.size ≤ 140737488351232) :
    ∃ k, lambrequinlaw13_PlanCols.f k x0.pred x0.args x1 a2 = some true := by
  refine Ev.rounds (g := fun k => lambrequinlaw13_PlanCols.f k x0.pred x0.args x1 a2) ?_
  unfold lambrequinlaw13_PlanCols.f
  refine Ev.pure rfl ?_
  by_cases c : x0.args.length ≤ 50
  · have hn := names_len x0.args
    refine Ev.neg (by omega) ?_
    refine Ev.bind (pCols_ev _ _ _ (by omega) (by omega)) ?_
    refine Ev.pure rfl ?_
    refine Ev.pos (by simp; omega) ?_
    refine Ev.pure rfl ?_
    refine Ev.pure rfl ?_
    refine Ev.pos (by simp; omega) ?_
    refine Ev.bind (pCols_ev _ _ _ (by simp; omega) (by omega)) ?_
    refine Ev.bind (Vars_ev _ _ (by omega)) ?_
    refine Ev.bind (pCols_ev _ _ _ (by omega) (by omega)) ?_
    refine Ev.bind (pCols_ev _ _ _ (by simp) (by omega)) ?_
    rw [List.nil_append]
    refine PlanCols_l0 _ _ _ _ _ _ c (cols_more _ _ _) ?_ (cols_all _) (cols_none _) (cols_none_le _ _) _ 0 0 rfl (by simp)
    rw [cols_all]; exact cols_le_all _ _
  · exact Ev.pos (by omega) (Ev.now _)
theorem PlanCols_walk (w : World) (x0 : Atom) (A0_1 : Option Addr) (c0_1 : Nat) (l0_1 : x0.args.length ≤ c0_1) (g0_1 : Kd.C k45 w A0_1 x0.args.length x0.args) (x1 : (List ByteArray)) (A1 : Option Addr) (c1 : Nat) (l1 : x1.length ≤ c1) (g1 : Kd.C Kd.string w A1 x1.length x1) (y1 : x1.length * 16 ≤ 140737488351232) (a2 : ByteArray) (w2 : a2.size ≤ 140737488351232) :
    Calls Try.prog 6 #[.agg #[.string x0.pred, .slice A0_1 x0.args.length c0_1], .slice A1 x1.length c1, .string a2] w fun e w' => e = .returned (.bool true) ∧ Below w.heap.size w w' := by
  obtain ⟨k, h⟩ := PlanCols_pure x0 g0_1.2.1 x1 y1 a2 w2
  exact (lambrequinlaw13_PlanCols.calls k x0.pred A0_1 c0_1 x0.args A1 c1 x1 a2 true w g0_1 l0_1 g1 l1 h).mono (fun e w' h' => ⟨h'.1, h'.2⟩)
end Go.Proofs.Ythpejcnldecmoaa.H
namespace Go.Proofs.Ythpejcnldecmoaa.planCols
open Go.ChangeShapes Go.WideShapes Go.ChangeAt Go.RowKit Go.Proofs.Ythpejcnldecmoaa.H Go.Proofs.YthpejcnldecmoaaW.PrintWords
open Go.ChangeMaps (open_string shut_string)
set_option linter.unusedVariables false
theorem own : ownKnob Try.prog.godebug = none := by kernel_rfl
theorem laidOut : laidOutB Try.prog = true := by kernel_rfl
set_option maxRecDepth 100000 in
theorem lifted (os : Os) (started : os.Started) (H : Type) (enc : TypeId × Value → H) :
    ReturnsInHanded {} Try.checked os 6 .any (Rows.planColsSpec.pre6 enc Try.prog Try.f6 Rows.planColsRow.domain false) (Rows.planColsSpec.post enc Try.prog Try.f6 false true false false) := by
  refine returnsInHanded_of_change_sized (C := Try.checked) own started (by kernel_rfl) Try.func6
    (ChangeSpec.witness6 (enc := enc) (C := Try.checked) false ⟨#[], #[.agg #[.string ⟨#[]⟩, .slice none 0 0], .slice none 0 0, .string ⟨#[]⟩], []⟩ 8 (by kernel_rfl) (by kernel_rfl) (by kernel_rfl) (by kernel_rfl)) ?_
  intro W base args ds gs before hval0 hW hcnd hsz0 _
  have hsz : (DataW.weightsEach Try.prog (Try.f6.params.toList ++ Rows.planColsSpec.plain.varTypes Try.prog) (ds ++ gs)).all (· ≤ reachBytes) = true := hsz0
  have hval : ∀ (j : Nat) t v, Try.f6.params[j]? = some t → args[j]? = some v → Value.okWide Try.prog W .any base t v := hval0
  have hW' := hW
  obtain ⟨p, q, hA0, hV, rfl, hfz, hnd⟩ := hW
  have hA : DataW.TrodAll enc Try.prog W 0 (fun _ => true) true Try.f6.params.toList args.toList ds p := hA0
  rw [Try.params6] at hA hval hsz
  obtain ⟨v0, vs0, d0, ds0, p0, q0, hargs, rfl, rfl, h0, r0⟩ := trodAll_cons hA
  obtain ⟨v1, vs1, d1, ds1, p1, q1, rfl, rfl, rfl, h1, r1⟩ := trodAll_cons r0
  obtain ⟨v2, vs2, d2, ds2, p2, q2, rfl, rfl, rfl, h2, r2⟩ := trodAll_cons r1
  obtain ⟨rfl, rfl, rfl⟩ := trodAll_nil r2
  obtain rfl : args = #[v0, v1, v2] := by cases args; simp_all
  obtain ⟨rfl, rfl⟩ := trodVars_none hV
  have k0 := h0
  have lt0 : ∀ x ∈ p0, x.block < W.heap.size := by obtain ⟨m, hm⟩ := k0; exact DataW.trod_lt m _ _ _ hm
  obtain ⟨cs0, rfl, -⟩ := okWide_struct Try.underlying24 (hval 0 24 v0 rfl rfl)
  obtain ⟨x0, g0⟩ := opens_Atom.arg k0
  obtain ⟨A0_1, c0_1, e0, l0_1, g0_1⟩ := k24_open g0
  obtain ⟨cl0⟩ := cs0
  obtain rfl : cl0 = _ := e0
  have k1 := h1
  have lt1 : ∀ x ∈ p1, x.block < W.heap.size := by obtain ⟨m, hm⟩ := k1; exact DataW.trod_lt m _ _ _ hm
  obtain ⟨a1, len1, cap1, rfl⟩ := okWide_slice Try.underlying28 (hval 1 28 v1 rfl rfl)
  have y1 := sized_row hsz (j := 1) (t := 28) rfl rfl Try.underlying28 (B := 16) (by kernel_rfl) h1
  obtain ⟨x1, A1, c1, e1, l1, g1⟩ := (opens_slice Try.underlying28 (by kernel_rfl) (opens_string (t := 9) (by kernel_rfl) (by kernel_rfl)) 9).arg k1
  simp only [Value.cells, List.cons.injEq, and_true, Value.slice.injEq] at e1
  obtain ⟨rfl, rfl, rfl⟩ := e1
  obtain ⟨a2, rfl, rfl, rfl, y2⟩ := open_string Try.underlying9 (hval 2 9 v2 rfl rfl) h2
  have w2 : a2.size ≤ 140737488351232 := by
    have z := sized_string hsz (j := 2) (t := 9) rfl rfl
    rw [Array.length_toList] at z
    exact z
  clear hA0 hval0 hsz0 hsz
  refine (PlanCols_walk W x0 A0_1 c0_1 l0_1 g0_1 x1 a1 cap1 l1 g1 y1 a2 w2).mono fun e W' ⟨he, bel⟩ => ?_
  subst he
  exact ⟨_, rfl, _, _, _, [], _, [], hW', trodAll_mk1 (shut_bool Try.underlying4 _), (trodAll_cons_mk (Below.trod laidOut (by kernel_rfl) (of_decide_eq_true (by kernel_rfl)) k0 bel lt0) (trodAll_cons_mk (Below.trod laidOut (by kernel_rfl) (of_decide_eq_true (by kernel_rfl)) k1 bel lt1) (trodAll_cons_mk (shut_string Try.underlying9 y2) trodAll_mk0))), rfl, bel.frame _, fun h => by cases h⟩
theorem over : Rows.planColsRow.holds Try.pinned (OpenSpec.ofChange Rows.planColsSpec) :=
  OpenClaim.holds_of_wide 6 Try.f6 rfl rfl rfl rfl rfl rfl rfl ⟨rfl, rfl, rfl, rfl, rfl⟩ rfl rfl rfl rfl rfl (by kernel_rfl) Try.func6 (by kernel_rfl)
    (of_decide_eq_true (by kernel_rfl)) (by unfold Func.isWrapper; first | (rw [if_pos (by decide +kernel)]; kernel_rfl) | (rw [if_neg (by decide +kernel)]; exact ⟨rfl, rfl⟩))
    (fun os started H enc _ => lifted os started H enc)
theorem proved : Rows.PlanColsSaid := over
end Go.Proofs.Ythpejcnldecmoaa.planCols
namespace Go.Proofs.Ythpejcnldecmoaa
theorem planCols_holds : Rows.PlanColsSaid := planCols.proved
#print axioms planCols_holds
end Go.Proofs.Ythpejcnldecmoaa

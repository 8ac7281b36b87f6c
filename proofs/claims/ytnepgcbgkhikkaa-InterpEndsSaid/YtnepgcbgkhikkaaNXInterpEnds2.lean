/- RowInterpEnds of the seat's law InterpEnds: the law holds, under the statement's own conditions. -/
import Derived.Test.YtnepgcbgkhikkaaNXInterpEnds
import Derived.Test.YtnepgcbgkhikkaaNXInterpEnds1
import Derived.OpenShut
import Derived.SizedLaws
import Derived.DataReads
import Derived.Test.YtnepgcbgkhikkaaRows
import Derived.Test.YtnepgcbgkhikkaaNW
import Derived.WalkKit
import Derived.ProofKit
import Derived.ShutString
import Derived.ChangeOld
import Derived.Below
import Derived.Carry
namespace Go.Proofs.Ytnepgcbgkhikkaa.H
open Go.RowKit Go.Proofs.YtnepgcbgkhikkaaW.PrintWords Go.Proofs.YtnepgcbgkhikkaaW.PrintLast Go.Proofs.YtnepgcbgkhikkaaW.PrintMore
attribute [local go_sem] max2_int min2_int max_two min_two max_three min_three max_four min_four
set_option linter.unusedVariables false
set_option linter.unusedSimpArgs false
mutual
def lambrequinlaw22_InterpEnds.j0 : Nat → Bool → List (Visit) → Bool → List (Stmt) → List Int → List Bool → Int → Option (Bool)
 | 0, _, _, _, _, _, _, _ => none
 | k + 1, x3, x4, x30, x102000, x102001, x102002, x102003 => if x30 = true then (if x3 = true then (some ((x4.length : Int) == 0)) else (some false)) else (if (x4.length : Int) = 0 then (lambrequinlaw22_InterpEnds.j1 k x3 x4 true x102000 x102001 x102002 x102003) else (lambrequinlaw22_InterpEnds.j1 k x3 x4 ((x4.length : Int) == x102003) x102000 x102001 x102002 x102003))
def lambrequinlaw22_InterpEnds.j1 : Nat → Bool → List (Visit) → Bool → List (Stmt) → List Int → List Bool → Int → Option (Bool)
 | 0, _, _, _, _, _, _, _ => none
 | k + 1, x3, x4, x46, x102000, x102001, x102002, x102003 => if x46 = true then (if x3 = true then (some (decide ((x4.length : Int) > 0))) else (some false)) else (if 0 ≤ (wrap64 ((x4.length : Int) - 1)) then (if (wrap64 ((x4.length : Int) - 1)) < (x4.length : Int) then (if ((rd_T52 x4 (wrap64 ((x4.length : Int) - 1))).place) < 0 then (lambrequinlaw22_InterpEnds.j2 k x3 ((rd_T52 x4 (wrap64 ((x4.length : Int) - 1))).place) true x102000 x102001 x102002 x102003) else (lambrequinlaw22_InterpEnds.j2 k x3 ((rd_T52 x4 (wrap64 ((x4.length : Int) - 1))).place) (decide (((rd_T52 x4 (wrap64 ((x4.length : Int) - 1))).place) ≥ (x102000.length : Int))) x102000 x102001 x102002 x102003)) else (none)) else (none))
def lambrequinlaw22_InterpEnds.j2 : Nat → Bool → Int → Bool → List (Stmt) → List Int → List Bool → Int → Option (Bool)
 | 0, _, _, _, _, _, _, _ => none
 | k + 1, x3, x5, x68, x102000, x102001, x102002, x102003 => if x68 = true then (some false) else (if 0 ≤ x5 then (if x5 < (x102000.length : Int) then (if ((rd_T30 x102000 x5).kind) = 7 then (if ((rd_T30 x102000 x5).a) < 0 then (if x3 = true then (some true) else (some false)) else (if ((rd_T30 x102000 x5).a) ≥ (x102000.length : Int) then (if x3 = true then (some true) else (some false)) else (if ((rd_T30 x102000 x5).b) < 0 then (if x3 = true then (some true) else (some false)) else (if x3 = true then (if ((rd_T30 x102000 x5).b) ≥ (x102000.length : Int) then (some true) else (some (((rd_T30 x102000 x5).kind) == 9))) else (some false))))) else (if ((rd_T30 x102000 x5).kind) = 8 then (if ((rd_T30 x102000 x5).a) < 0 then (if x3 = true then (some true) else (some false)) else (if ((rd_T30 x102000 x5).a) ≥ (x102000.length : Int) then (if x3 = true then (some true) else (some false)) else (if x3 = true then (some (((rd_T30 x102000 x5).kind) == 9)) else (some false)))) else (if x3 = true then (if x5 = (wrap64 ((x102000.length : Int) - 1)) then (some true) else (some (((rd_T30 x102000 x5).kind) == 9))) else (some false)))) else (none)) else (none))
end
def lambrequinlaw22_InterpEnds.f (k : Nat) (l0_0 : List (Stmt)) (l0_1 : List Int) (l0_2 : List Bool) (a0_3 : Int) : Option (Bool) := (lambrequinlaw22_shown.f).bind fun t102 => ((lambrequinlaw22_few.f l0_0 l0_1 l0_2 a0_3).bind fun t103 => (if t103 = true then ((interp_Run.f l0_0 l0_1 l0_2 a0_3).bind fun t104 => (if (l0_0.length : Int) = 0 then (lambrequinlaw22_InterpEnds.j0 k t102 t104 true l0_0 l0_1 l0_2 a0_3) else (lambrequinlaw22_InterpEnds.j0 k t102 t104 (decide (a0_3 ≤ 0)) l0_0 l0_1 l0_2 a0_3))) else (some t102)))
theorem lambrequinlaw22_InterpEnds.mono_l : ∀ k, (∀ y0 y1 y2 y3 y4 y5 y6, LeO (lambrequinlaw22_InterpEnds.j0 k y0 y1 y2 y3 y4 y5 y6) (lambrequinlaw22_InterpEnds.j0 (k + 1) y0 y1 y2 y3 y4 y5 y6)) ∧ (∀ y0 y1 y2 y3 y4 y5 y6, LeO (lambrequinlaw22_InterpEnds.j1 k y0 y1 y2 y3 y4 y5 y6) (lambrequinlaw22_InterpEnds.j1 (k + 1) y0 y1 y2 y3 y4 y5 y6)) ∧ (∀ y0 y1 y2 y3 y4 y5 y6, LeO (lambrequinlaw22_InterpEnds.j2 k y0 y1 y2 y3 y4 y5 y6) (lambrequinlaw22_InterpEnds.j2 (k + 1) y0 y1 y2 y3 y4 y5 y6))
 | 0 => ⟨fun _ _ _ _ _ _ _ r h => by simp [lambrequinlaw22_InterpEnds.j0] at h, fun _ _ _ _ _ _ _ r h => by simp [lambrequinlaw22_InterpEnds.j1] at h, fun _ _ _ _ _ _ _ r h => by simp [lambrequinlaw22_InterpEnds.j2] at h⟩
 | k + 1 => by
  obtain ⟨ih0, ih1, ih2⟩ := lambrequinlaw22_InterpEnds.mono_l k
  refine ⟨?_, ?_, ?_⟩
  ·intro y0 y1 y2 y3 y4 y5 y6
   unfold lambrequinlaw22_InterpEnds.j0
   repeat' first
   | (with_reducible exact ih0 _ _ _ _ _ _ _)
   | (with_reducible exact ih1 _ _ _ _ _ _ _)
   | (with_reducible exact ih2 _ _ _ _ _ _ _)
   | (with_reducible exact LeO.refl _)
   | (with_reducible exact LeO.none _)
   | (with_reducible refine LeO.ite ?_ ?_)
   | (with_reducible refine LeO.bind ?_ (fun _ => ?_))
   | exact ih0 _ _ _ _ _ _ _
   | exact ih1 _ _ _ _ _ _ _
   | exact ih2 _ _ _ _ _ _ _
   | exact LeO.none _
   | refine LeO.ite ?_ ?_
   | refine LeO.bind ?_ (fun _ => ?_)
  ·intro y0 y1 y2 y3 y4 y5 y6
   unfold lambrequinlaw22_InterpEnds.j1
   repeat' first
   | (with_reducible exact ih0 _ _ _ _ _ _ _)
   | (with_reducible exact ih1 _ _ _ _ _ _ _)
   | (with_reducible exact ih2 _ _ _ _ _ _ _)
   | (with_reducible exact LeO.refl _)
   | (with_reducible exact LeO.none _)
   | (with_reducible refine LeO.ite ?_ ?_)
   | (with_reducible refine LeO.bind ?_ (fun _ => ?_))
   | exact ih0 _ _ _ _ _ _ _
   | exact ih1 _ _ _ _ _ _ _
   | exact ih2 _ _ _ _ _ _ _
   | exact LeO.none _
   | refine LeO.ite ?_ ?_
   | refine LeO.bind ?_ (fun _ => ?_)
  ·intro y0 y1 y2 y3 y4 y5 y6
   unfold lambrequinlaw22_InterpEnds.j2
   repeat' first
   | (with_reducible exact ih0 _ _ _ _ _ _ _)
   | (with_reducible exact ih1 _ _ _ _ _ _ _)
   | (with_reducible exact ih2 _ _ _ _ _ _ _)
   | (with_reducible exact LeO.refl _)
   | (with_reducible exact LeO.none _)
   | (with_reducible refine LeO.ite ?_ ?_)
   | (with_reducible refine LeO.bind ?_ (fun _ => ?_))
   | exact ih0 _ _ _ _ _ _ _
   | exact ih1 _ _ _ _ _ _ _
   | exact ih2 _ _ _ _ _ _ _
   | exact LeO.none _
   | refine LeO.ite ?_ ?_
   | refine LeO.bind ?_ (fun _ => ?_)
theorem lambrequinlaw22_InterpEnds.mono : ∀ a0 a1 a2 a3 k, LeO (lambrequinlaw22_InterpEnds.f k a0 a1 a2 a3) (lambrequinlaw22_InterpEnds.f (k + 1) a0 a1 a2 a3) := by
 intro a0 a1 a2 a3 k
 obtain ⟨ih0, ih1, ih2⟩ := lambrequinlaw22_InterpEnds.mono_l k
 unfold lambrequinlaw22_InterpEnds.f
 repeat' first
   | (with_reducible exact ih0 _ _ _ _ _ _ _)
   | (with_reducible exact ih1 _ _ _ _ _ _ _)
   | (with_reducible exact ih2 _ _ _ _ _ _ _)
   | (with_reducible exact LeO.refl _)
   | (with_reducible exact LeO.none _)
   | (with_reducible refine LeO.ite ?_ ?_)
   | (with_reducible refine LeO.bind ?_ (fun _ => ?_))
   | exact ih0 _ _ _ _ _ _ _
   | exact ih1 _ _ _ _ _ _ _
   | exact ih2 _ _ _ _ _ _ _
   | exact LeO.none _
   | refine LeO.ite ?_ ?_
   | refine LeO.bind ?_ (fun _ => ?_)
set_option maxHeartbeats 8000000 in
set_option maxRecDepth 100000 in
theorem lambrequinlaw22_InterpEnds.calls (k : Nat) (A0_0 : Option Addr) (c0_0 : Nat) (l0_0 : List (Stmt)) (A0_1 : Option Addr) (c0_1 : Nat) (l0_1 : List Int) (A0_2 : Option Addr) (c0_2 : Nat) (l0_2 : List Bool) (a0_3 : Int) (r : Bool) (w : World) (hr0_0 : Kd.C k30 w A0_0 l0_0.length l0_0) (hc0_0 : l0_0.length ≤ c0_0) (hr0_1 : Kd.C (Kd.int .i64) w A0_1 l0_1.length l0_1) (hc0_1 : l0_1.length ≤ c0_1) (hr0_2 : Kd.C Kd.bool w A0_2 l0_2.length l0_2) (hc0_2 : l0_2.length ≤ c0_2) (h : lambrequinlaw22_InterpEnds.f k l0_0 l0_1 l0_2 a0_3 = some r) :
  Calls Try.prog 9 #[.agg #[.slice A0_0 l0_0.length c0_0, .slice A0_1 l0_1.length c0_1, .slice A0_2 l0_2.length c0_2, .int .i64 a0_3]] w fun e w' => e = .returned (.bool r) ∧ Below w.heap.size w w' := by
 have hu43 := Try.underlying43
 have hu30 := Try.underlying30
 have HR0_0 := am hr0_0
 have HC0_0 := am hc0_0
 clear hr0_0 hc0_0
 have HR0_1 := am hr0_1
 have HC0_1 := am hc0_1
 clear hr0_1 hc0_1
 have HR0_2 := am hr0_2
 have HC0_2 := am hc0_2
 clear hr0_2 hc0_2
 have HB := am (Below.refl w.heap.size w)
 have H : ((lambrequinlaw22_shown.f).bind fun t102 => ((lambrequinlaw22_few.f l0_0 l0_1 l0_2 a0_3).bind fun t103 => (if t103 = true then ((interp_Run.f l0_0 l0_1 l0_2 a0_3).bind fun t104 => (if (l0_0.length : Int) = 0 then (lambrequinlaw22_InterpEnds.j0 k t102 t104 true l0_0 l0_1 l0_2 a0_3) else (lambrequinlaw22_InterpEnds.j0 k t102 t104 (decide (a0_3 ≤ 0)) l0_0 l0_1 l0_2 a0_3))) else (some t102)))) = some r := h
 clear h
 replace H := Option.bind_eq_some_iff.mp H
 obtain ⟨t102, A20, H⟩ := H
 replace H : ((lambrequinlaw22_few.f l0_0 l0_1 l0_2 a0_3).bind fun t103 => (if t103 = true then ((interp_Run.f l0_0 l0_1 l0_2 a0_3).bind fun t104 => (if (l0_0.length : Int) = 0 then (lambrequinlaw22_InterpEnds.j0 k t102 t104 true l0_0 l0_1 l0_2 a0_3) else (lambrequinlaw22_InterpEnds.j0 k t102 t104 (decide (a0_3 ≤ 0)) l0_0 l0_1 l0_2 a0_3))) else (some t102))) = some r := H
 have A2 := am A20
 clear A20
 replace H := Option.bind_eq_some_iff.mp H
 obtain ⟨t103, A30, H⟩ := H
 replace H : (if t103 = true then ((interp_Run.f l0_0 l0_1 l0_2 a0_3).bind fun t104 => (if (l0_0.length : Int) = 0 then (lambrequinlaw22_InterpEnds.j0 k t102 t104 true l0_0 l0_1 l0_2 a0_3) else (lambrequinlaw22_InterpEnds.j0 k t102 t104 (decide (a0_3 ≤ 0)) l0_0 l0_1 l0_2 a0_3))) else (some t102)) = some r := H
 have A3 := am A30
 clear A30
 by_cases c4 : t103 = true
 ·subst c4
  have H1 : ((interp_Run.f l0_0 l0_1 l0_2 a0_3).bind fun t104 => (if (l0_0.length : Int) = 0 then (lambrequinlaw22_InterpEnds.j0 k t102 t104 true l0_0 l0_1 l0_2 a0_3) else (lambrequinlaw22_InterpEnds.j0 k t102 t104 (decide (a0_3 ≤ 0)) l0_0 l0_1 l0_2 a0_3))) = some r := by rw [if_pos rfl] at H; exact H
  clear H
  have H := H1
  clear H1
  replace H := Option.bind_eq_some_iff.mp H
  obtain ⟨t104, A50, H⟩ := H
  replace H : (if (l0_0.length : Int) = 0 then (lambrequinlaw22_InterpEnds.j0 k t102 t104 true l0_0 l0_1 l0_2 a0_3) else (lambrequinlaw22_InterpEnds.j0 k t102 t104 (decide (a0_3 ≤ 0)) l0_0 l0_1 l0_2 a0_3)) = some r := H
  have A5 := am A50
  clear A50
  have HC6 := am H
  clear H
  go_enter Try.func9, Try.ntmps9
  go_upto_region 5 with (first | ((with_reducible refine gate_dst (N := 1) rfl ?_); (try (refine gate_guard (by rfl) ?_; dsimp only)); refine box_event ?hg (N := 1) ?hd (cs := #[.slice A0_0 l0_0.length c0_0, .slice A0_1 l0_1.length c0_1, .slice A0_2 l0_2.length c0_2, .int .i64 a0_3]) (t := 43) ?hr ?_; (case hd => rfl); (case hg => rfl); (case hr => first | (go_simp; done) | (go_simp; rfl)); intro gb101 hg w7 hbox hb; have BK101 := am (hbox); have GW101 := am ((by rw [hg]; exact (below_size (by repeat (first | (with_reducible first | exact HB.out | apply lA | apply lN | apply lD) | exact HB.out))) : w.heap.size ≤ gb101)); have GE101 := am ((by rw [hg]; exact (below_size (by repeat (first | (with_reducible first | exact HB.out | apply lA | apply lN | apply lD) | exact HB.out))) : w.heap.size ≤ gb101)); replace HB := am (below_step (by repeat (first | (with_reducible first | exact HB.out | apply lA | apply lN | apply lD) | exact HB.out)) hb); clear hb hbox hg) | ((with_reducible refine gate_callee (f := 33) rfl ?_); refine goesL_ (some 8) rfl rfl Try.func33 (by kernel_rfl) rfl #[] rfl (by (try simp only [List.map_toArray, List.map_cons, List.map_nil]); first | done | rfl | (simp only [List.length_drop, List.length_take]; rfl)) ?_; (with_reducible refine (lambrequinlaw22_shown.calls  t102 _ A2.out).mono ?_); rintro e w8 ⟨rfl, hb⟩; refine ⟨_, rfl, ?_⟩; replace BK101 := am (blk_below (g := gb101) (o := .cells #[.slice A0_0 l0_0.length c0_0, .slice A0_1 l0_1.length c0_1, .slice A0_2 l0_2.length c0_2, .int .i64 a0_3] 43 (0, 0)) (by (with_reducible repeat (first | refine bN ?_ _ | refine bD ?_ | refine bA ?_ _)); exact BK101.out) hb); replace HB := am (below_step (by repeat (first | (with_reducible first | exact HB.out | apply lA | apply lN | apply lD | refine lS ?_ GE101.out) | exact HB.out)) hb); (try clear hb); (try clear hb2); (try clear hk); (try clear hi); have hcz9_0 : w8.cell? ⟨gb101, 0, none⟩ = some (.slice A0_0 l0_0.length c0_0) := (blk_cell BK101.out 0).trans rfl; have hcz9_1 : w8.cell? ⟨gb101, 1, none⟩ = some (.slice A0_1 l0_1.length c0_1) := (blk_cell BK101.out 1).trans rfl; have hcz9_2 : w8.cell? ⟨gb101, 2, none⟩ = some (.slice A0_2 l0_2.length c0_2) := (blk_cell BK101.out 2).trans rfl; have hcz9_3 : w8.cell? ⟨gb101, 3, none⟩ = some (.int .i64 a0_3) := (blk_cell BK101.out 3).trans rfl; have hfz9_0 := blk_frozen BK101.out 0; have hfz9_1 := blk_frozen BK101.out 1; have hfz9_2 := blk_frozen BK101.out 2; have hfz9_3 := blk_frozen BK101.out 3) | ((with_reducible refine gate_callee (f := 34) rfl ?_); refine goesL_ (some 10) rfl rfl Try.func34 (by kernel_rfl) rfl #[.agg #[.slice A0_0 l0_0.length c0_0, .slice A0_1 l0_1.length c0_1, .slice A0_2 l0_2.length c0_2, .int .i64 a0_3]] rfl (by (try simp only [List.map_toArray, List.map_cons, List.map_nil]); first | done | rfl | (simp only [List.length_drop, List.length_take]; rfl)) ?_; (with_reducible refine (lambrequinlaw22_few.calls _ _ l0_0 _ _ l0_1 _ _ l0_2 a0_3 true _ ?side1 ?side2 ?side3 ?side4 ?side5 ?side6 A3.out).mono ?_); (case side1 => repeat (first | exact (Kd.C_below HR0_0.out HB.out) | (with_reducible refine Kd.C_alloc ?_ _) | (with_reducible refine Kd.C_drewN ?_ _) | (with_reducible refine Kd.C_drew ?_))); (case side2 => exact HC0_0.out); (case side3 => repeat (first | exact (Kd.C_below HR0_1.out HB.out) | (with_reducible refine Kd.C_alloc ?_ _) | (with_reducible refine Kd.C_drewN ?_ _) | (with_reducible refine Kd.C_drew ?_))); (case side4 => exact HC0_1.out); (case side5 => repeat (first | exact (Kd.C_below HR0_2.out HB.out) | (with_reducible refine Kd.C_alloc ?_ _) | (with_reducible refine Kd.C_drewN ?_ _) | (with_reducible refine Kd.C_drew ?_))); (case side6 => exact HC0_2.out); rintro e w10 ⟨rfl, hb⟩; refine ⟨_, rfl, ?_⟩; replace BK101 := am (blk_below (g := gb101) (o := .cells #[.slice A0_0 l0_0.length c0_0, .slice A0_1 l0_1.length c0_1, .slice A0_2 l0_2.length c0_2, .int .i64 a0_3] 43 (0, 0)) (by (with_reducible repeat (first | refine bN ?_ _ | refine bD ?_ | refine bA ?_ _)); exact BK101.out) hb); replace HB := am (below_step (by repeat (first | (with_reducible first | exact HB.out | apply lA | apply lN | apply lD | refine lS ?_ GE101.out) | exact HB.out)) hb); (try clear hb); (try clear hb2); (try clear hk); (try clear hi); have hcz11_0 : w10.cell? ⟨gb101, 0, none⟩ = some (.slice A0_0 l0_0.length c0_0) := (blk_cell BK101.out 0).trans rfl; have hcz11_1 : w10.cell? ⟨gb101, 1, none⟩ = some (.slice A0_1 l0_1.length c0_1) := (blk_cell BK101.out 1).trans rfl; have hcz11_2 : w10.cell? ⟨gb101, 2, none⟩ = some (.slice A0_2 l0_2.length c0_2) := (blk_cell BK101.out 2).trans rfl; have hcz11_3 : w10.cell? ⟨gb101, 3, none⟩ = some (.int .i64 a0_3) := (blk_cell BK101.out 3).trans rfl; have hfz11_0 := blk_frozen BK101.out 0; have hfz11_1 := blk_frozen BK101.out 1; have hfz11_2 := blk_frozen BK101.out 2; have hfz11_3 := blk_frozen BK101.out 3) | ((with_reducible refine gate_callee (f := 36) rfl ?_); refine goesL_ (some 21) rfl rfl Try.func36 (by kernel_rfl) rfl #[.slice A0_0 l0_0.length c0_0, .slice A0_1 l0_1.length c0_1, .slice A0_2 l0_2.length c0_2, .int .i64 a0_3] rfl (by (try simp only [List.map_toArray, List.map_cons, List.map_nil]); first | done | rfl | (simp only [List.length_drop, List.length_take]; rfl)) ?_; (with_reducible refine (interp_Run.calls _ _ l0_0 _ _ l0_1 _ _ l0_2 a0_3 t104 _ ?side1 ?side2 ?side3 ?side4 ?side5 ?side6 A5.out).mono ?_); (case side1 => repeat (first | exact (Kd.C_below HR0_0.out HB.out) | (with_reducible refine Kd.C_alloc ?_ _) | (with_reducible refine Kd.C_drewN ?_ _) | (with_reducible refine Kd.C_drew ?_))); (case side2 => exact HC0_0.out); (case side3 => repeat (first | exact (Kd.C_below HR0_1.out HB.out) | (with_reducible refine Kd.C_alloc ?_ _) | (with_reducible refine Kd.C_drewN ?_ _) | (with_reducible refine Kd.C_drew ?_))); (case side4 => exact HC0_1.out); (case side5 => repeat (first | exact (Kd.C_below HR0_2.out HB.out) | (with_reducible refine Kd.C_alloc ?_ _) | (with_reducible refine Kd.C_drewN ?_ _) | (with_reducible refine Kd.C_drew ?_))); (case side6 => exact HC0_2.out); rintro e w12 ⟨v105, rfl, ho0, hb⟩; refine ⟨_, rfl, ?_⟩; have HO106 := am (Kd.S_lower ho0 (below_size (by repeat (first | (with_reducible first | exact HB.out | apply lA | apply lN | apply lD | refine lS ?_ GE101.out) | exact HB.out)))); replace BK101 := am (blk_below (g := gb101) (o := .cells #[.slice A0_0 l0_0.length c0_0, .slice A0_1 l0_1.length c0_1, .slice A0_2 l0_2.length c0_2, .int .i64 a0_3] 43 (0, 0)) (by (with_reducible repeat (first | refine bN ?_ _ | refine bD ?_ | refine bA ?_ _)); exact BK101.out) hb); replace HB := am (below_step (by repeat (first | (with_reducible first | exact HB.out | apply lA | apply lN | apply lD | refine lS ?_ GE101.out) | exact HB.out)) hb); (try clear hb); (try clear hb2); (try clear hk); (try clear hi); (try clear ho0)))
  (try simp only [Act.put, List.setIfInBounds_toArray, List.set_cons_zero, List.set_cons_succ])
  go_cut [30] (fun v30 wc => ∃ (kq : Nat) (x30_5 : Bool), v30 = .bool x30_5 ∧ Aside0 (lambrequinlaw22_InterpEnds.j0 kq t102 t104 x30_5 l0_0 l0_1 l0_2 a0_3 = some r) ∧ Aside0 (kq ≤ k) ∧ Aside0 (Kd.S k52 52 wc w.heap.size (fun _ => True) v105 t104) ∧ Aside0 (wc.heap[gb101]? = some (.cells #[(.slice A0_0 l0_0.length c0_0), (.slice A0_1 l0_1.length c0_1), (.slice A0_2 l0_2.length c0_2), .int .i64 a0_3] 43 (0, 0))) ∧ Aside0 (Below w.heap.size w wc))
  case first =>
   have H := HC6.out
   clear HC6
   by_cases c13 : (l0_0.length : Int) = 0
   ·rw [if_pos c13] at H
    have c13b0 : ((l0_0.length : Int) == 0) = true := beq_iff_eq.mpr c13
    have c13b1 : ((l0_0.length : Int) != 0) = false := bne_eq_false_iff_eq.mpr c13
    clear c13
    (first | rw [c13b0] | (simp only [i64_w, i32_w]; rw [c13b0]) | skip)
    have H' := am H
    clear H
    have hcz14_0 : w12.cell? ⟨gb101, 0, none⟩ = some (.slice A0_0 l0_0.length c0_0) := (blk_cell BK101.out 0).trans rfl
    have hcz14_1 : w12.cell? ⟨gb101, 1, none⟩ = some (.slice A0_1 l0_1.length c0_1) := (blk_cell BK101.out 1).trans rfl
    have hcz14_2 : w12.cell? ⟨gb101, 2, none⟩ = some (.slice A0_2 l0_2.length c0_2) := (blk_cell BK101.out 2).trans rfl
    have hcz14_3 : w12.cell? ⟨gb101, 3, none⟩ = some (.int .i64 a0_3) := (blk_cell BK101.out 3).trans rfl
    have hfz14_0 := blk_frozen BK101.out 0
    have hfz14_1 := blk_frozen BK101.out 1
    have hfz14_2 := blk_frozen BK101.out 2
    have hfz14_3 := blk_frozen BK101.out 3
    go_wp2
    go_meet
    case rel => exact ⟨_, (true), (by first | rfl | (simp; done) | (simp [*]; done)), H', ⟨by first | omega | exact Nat.le_refl _⟩, ⟨by (with_reducible repeat (first | apply Kd.S_alloc | apply Kd.S_drewN | apply Kd.S_drew)); exact HO106.out⟩, ⟨by (with_reducible repeat (first | refine bN ?_ _ | refine bD ?_ | refine bA ?_ _)); exact BK101.out⟩, ⟨by repeat (first | (with_reducible first | exact HB.out | apply lA | apply lN | apply lD | refine lS ?_ GE101.out) | exact HB.out)⟩⟩
   ·rw [if_neg c13] at H
    have c13b0 : ((l0_0.length : Int) == 0) = false := beq_eq_false_iff_ne.mpr c13
    have c13b1 : ((l0_0.length : Int) != 0) = true := bne_iff_ne.mpr c13
    have c13b2 : ¬ (l0_0 = []) := fun h_ => c13 (by rw [h_]; rfl)
    (first | rw [c13b0] | (simp only [i64_w, i32_w]; rw [c13b0]) | skip)
    have H' := am H
    clear H
    have hcz15_0 : w12.cell? ⟨gb101, 0, none⟩ = some (.slice A0_0 l0_0.length c0_0) := (blk_cell BK101.out 0).trans rfl
    have hcz15_1 : w12.cell? ⟨gb101, 1, none⟩ = some (.slice A0_1 l0_1.length c0_1) := (blk_cell BK101.out 1).trans rfl
    have hcz15_2 : w12.cell? ⟨gb101, 2, none⟩ = some (.slice A0_2 l0_2.length c0_2) := (blk_cell BK101.out 2).trans rfl
    have hcz15_3 : w12.cell? ⟨gb101, 3, none⟩ = some (.int .i64 a0_3) := (blk_cell BK101.out 3).trans rfl
    have hfz15_0 := blk_frozen BK101.out 0
    have hfz15_1 := blk_frozen BK101.out 1
    have hfz15_2 := blk_frozen BK101.out 2
    have hfz15_3 := blk_frozen BK101.out 3
    go_wp2
    go_meet
    case rel => exact ⟨_, (decide (a0_3 ≤ 0)), (by first | rfl | (simp; done) | (simp [*]; done)), H', ⟨by first | omega | exact Nat.le_refl _⟩, ⟨by (with_reducible repeat (first | apply Kd.S_alloc | apply Kd.S_drewN | apply Kd.S_drew)); exact HO106.out⟩, ⟨by (with_reducible repeat (first | refine bN ?_ _ | refine bD ?_ | refine bA ?_ _)); exact BK101.out⟩, ⟨by repeat (first | (with_reducible first | exact HB.out | apply lA | apply lN | apply lD | refine lS ?_ GE101.out) | exact HB.out)⟩⟩
  case rest =>
   clear HC6
   try clear c1
   try clear p2
   try clear c3
   try clear c4
   try clear c9
   try clear c13
   try clear c13b0
   try clear c13b1
   try clear c13b2
   try clear hcz11_0
   try clear hcz11_1
   try clear hcz11_2
   try clear hcz11_3
   try clear hcz14_0
   try clear hcz14_1
   try clear hcz14_2
   try clear hcz14_3
   try clear hcz15_0
   try clear hcz15_1
   try clear hcz15_2
   try clear hcz15_3
   try clear hcz9_0
   try clear hcz9_1
   try clear hcz9_2
   try clear hcz9_3
   try clear hfz11_0
   try clear hfz11_1
   try clear hfz11_2
   try clear hfz11_3
   try clear hfz14_0
   try clear hfz14_1
   try clear hfz14_2
   try clear hfz14_3
   try clear hfz15_0
   try clear hfz15_1
   try clear hfz15_2
   try clear hfz15_3
   try clear hfz9_0
   try clear hfz9_1
   try clear hfz9_2
   try clear hfz9_3
   obtain ⟨kq, x30_5, rfl, HA, HJ5, HO_4, BK101, HB⟩ := hcut
   cases kq with
   | zero => exact absurd HA.out (by simp [lambrequinlaw22_InterpEnds.j0])
   | succ kj5 =>
    have H := HA.out
    clear HA
    simp only [lambrequinlaw22_InterpEnds.j0] at H
    by_cases c16 : x30_5 = true
    ·subst c16
     have H1 : (if t102 = true then (some ((t104.length : Int) == 0)) else (some false)) = some r := by rw [if_pos rfl] at H; exact H
     clear H
     have H := H1
     clear H1
     by_cases c17 : t102 = true
     ·subst c17
      have H1 : (some ((t104.length : Int) == 0)) = some r := by rw [if_pos rfl] at H; exact H
      clear H
      have H := H1
      clear H1
      obtain rfl := Option.some.inj H
      obtain ⟨Ao18, co18, eo18⟩ := Kd.S_slice HO_4.out
      subst eo18
      go_wp2
      go_ret
      exact ⟨by first | rfl | (simp [errW_none, errW_some] <;> rfl) | (simp [*, errW_none, errW_some] <;> rfl), by repeat (first | (with_reducible first | exact HB.out | apply lA | apply lN | apply lD | refine lS ?_ GE101.out) | exact HB.out)⟩
     ·replace c17 := Bool.eq_false_iff.mpr c17
      subst c17
      have H1 : (some false) = some r := by rw [if_neg (show ¬ (false = true) by decide)] at H; exact H
      clear H
      have H := H1
      clear H1
      obtain rfl := Option.some.inj H
      go_wp2
      go_ret
      exact ⟨by first | rfl | (simp [errW_none, errW_some] <;> rfl) | (simp [*, errW_none, errW_some] <;> rfl), by repeat (first | (with_reducible first | exact HB.out | apply lA | apply lN | apply lD | refine lS ?_ GE101.out) | exact HB.out)⟩
    ·replace c16 := Bool.eq_false_iff.mpr c16
     subst c16
     have H1 : (if (t104.length : Int) = 0 then (lambrequinlaw22_InterpEnds.j1 kj5 t102 t104 true l0_0 l0_1 l0_2 a0_3) else (lambrequinlaw22_InterpEnds.j1 kj5 t102 t104 ((t104.length : Int) == a0_3) l0_0 l0_1 l0_2 a0_3)) = some r := by rw [if_neg (show ¬ (false = true) by decide)] at H; exact H
     clear H
     have H := H1
     clear H1
     have HC19 := am H
     clear H
     go_upto_region 7 with (fail)
     go_cut [46] (fun v46 wc => ∃ (kq : Nat) (x46_18 : Bool), v46 = .bool x46_18 ∧ Aside0 (lambrequinlaw22_InterpEnds.j1 kq t102 t104 x46_18 l0_0 l0_1 l0_2 a0_3 = some r) ∧ Aside0 (kq ≤ kj5) ∧ Aside0 (Kd.S k52 52 wc w.heap.size (fun _ => True) v105 t104) ∧ Aside0 (wc.heap[gb101]? = some (.cells #[(.slice A0_0 l0_0.length c0_0), (.slice A0_1 l0_1.length c0_1), (.slice A0_2 l0_2.length c0_2), .int .i64 a0_3] 43 (0, 0))) ∧ Aside0 (Below w.heap.size w wc))
     case first =>
      have H := HC19.out
      clear HC19
      by_cases c20 : (t104.length : Int) = 0
      ·rw [if_pos c20] at H
       have c20b0 : ((t104.length : Int) == 0) = true := beq_iff_eq.mpr c20
       have c20b1 : ((t104.length : Int) != 0) = false := bne_eq_false_iff_eq.mpr c20
       clear c20
       (first | rw [c20b0] | (simp only [i64_w, i32_w]; rw [c20b0]) | skip)
       have H' := am H
       clear H
       obtain ⟨Ao21, co21, eo21⟩ := Kd.S_slice HO_4.out
       subst eo21
       go_wp2
       go_meet
       case rel => exact ⟨_, (true), (by first | rfl | (simp; done) | (simp [*]; done)), H', ⟨by have := HJ5.out; first | omega | exact Nat.le_refl _⟩, ⟨by (with_reducible repeat (first | apply Kd.S_alloc | apply Kd.S_drewN | apply Kd.S_drew)); exact HO_4.out⟩, ⟨by (with_reducible repeat (first | refine bN ?_ _ | refine bD ?_ | refine bA ?_ _)); exact BK101.out⟩, ⟨by repeat (first | (with_reducible first | exact HB.out | apply lA | apply lN | apply lD | refine lS ?_ GE101.out) | exact HB.out)⟩⟩
      ·rw [if_neg c20] at H
       have c20b0 : ((t104.length : Int) == 0) = false := beq_eq_false_iff_ne.mpr c20
       have c20b1 : ((t104.length : Int) != 0) = true := bne_iff_ne.mpr c20
       have c20b2 : ¬ (t104 = []) := fun h_ => c20 (by rw [h_]; rfl)
       (first | rw [c20b0] | (simp only [i64_w, i32_w]; rw [c20b0]) | skip)
       have H' := am H
       clear H
       obtain ⟨Ao22, co22, eo22⟩ := Kd.S_slice HO_4.out
       subst eo22
       have hcz23_0 : wc.cell? ⟨gb101, 0, none⟩ = some (.slice A0_0 l0_0.length c0_0) := (blk_cell BK101.out 0).trans rfl
       have hcz23_1 : wc.cell? ⟨gb101, 1, none⟩ = some (.slice A0_1 l0_1.length c0_1) := (blk_cell BK101.out 1).trans rfl
       have hcz23_2 : wc.cell? ⟨gb101, 2, none⟩ = some (.slice A0_2 l0_2.length c0_2) := (blk_cell BK101.out 2).trans rfl
       have hcz23_3 : wc.cell? ⟨gb101, 3, none⟩ = some (.int .i64 a0_3) := (blk_cell BK101.out 3).trans rfl
       have hfz23_0 := blk_frozen BK101.out 0
       have hfz23_1 := blk_frozen BK101.out 1
       have hfz23_2 := blk_frozen BK101.out 2
       have hfz23_3 := blk_frozen BK101.out 3
       go_wp2
       go_meet
       case rel => exact ⟨_, (((t104.length : Int) == a0_3)), (by first | rfl | (simp; done) | (simp [*]; done)), H', ⟨by have := HJ5.out; first | omega | exact Nat.le_refl _⟩, ⟨by (with_reducible repeat (first | apply Kd.S_alloc | apply Kd.S_drewN | apply Kd.S_drew)); exact HO_4.out⟩, ⟨by (with_reducible repeat (first | refine bN ?_ _ | refine bD ?_ | refine bA ?_ _)); exact BK101.out⟩, ⟨by repeat (first | (with_reducible first | exact HB.out | apply lA | apply lN | apply lD | refine lS ?_ GE101.out) | exact HB.out)⟩⟩
     case rest =>
      clear HC19
      try clear c1
      try clear c2
      try clear p2
      try clear c3
      try clear c4
      try clear c9
      try clear c13
      try clear c13b0
      try clear c13b1
      try clear c13b2
      try clear c16
      try clear c17
      try clear c20
      try clear c20b0
      try clear c20b1
      try clear c20b2
      try clear hcz11_0
      try clear hcz11_1
      try clear hcz11_2
      try clear hcz11_3
      try clear hcz14_0
      try clear hcz14_1
      try clear hcz14_2
      try clear hcz14_3
      try clear hcz15_0
      try clear hcz15_1
      try clear hcz15_2
      try clear hcz15_3
      try clear hcz23_0
      try clear hcz23_1
      try clear hcz23_2
      try clear hcz23_3
      try clear hcz9_0
      try clear hcz9_1
      try clear hcz9_2
      try clear hcz9_3
      try clear hfz11_0
      try clear hfz11_1
      try clear hfz11_2
      try clear hfz11_3
      try clear hfz14_0
      try clear hfz14_1
      try clear hfz14_2
      try clear hfz14_3
      try clear hfz15_0
      try clear hfz15_1
      try clear hfz15_2
      try clear hfz15_3
      try clear hfz23_0
      try clear hfz23_1
      try clear hfz23_2
      try clear hfz23_3
      try clear hfz9_0
      try clear hfz9_1
      try clear hfz9_2
      try clear hfz9_3
      try clear p2
      obtain ⟨kq, x46_18, rfl, HA, HJ18, HO_4, BK101, HB⟩ := hcut
      cases kq with
      | zero => exact absurd HA.out (by simp [lambrequinlaw22_InterpEnds.j1])
      | succ kj18 =>
       have H := HA.out
       clear HA
       simp only [lambrequinlaw22_InterpEnds.j1] at H
       by_cases c24 : x46_18 = true
       ·subst c24
        have H1 : (if t102 = true then (some (decide ((t104.length : Int) > 0))) else (some false)) = some r := by rw [if_pos rfl] at H; exact H
        clear H
        have H := H1
        clear H1
        by_cases c25 : t102 = true
        ·subst c25
         have H1 : (some (decide ((t104.length : Int) > 0))) = some r := by rw [if_pos rfl] at H; exact H
         clear H
         have H := H1
         clear H1
         obtain rfl := Option.some.inj H
         obtain ⟨Ao26, co26, eo26⟩ := Kd.S_slice HO_4.out
         subst eo26
         go_wp2
         go_ret
         exact ⟨by first | rfl | (simp [errW_none, errW_some] <;> rfl) | (simp [*, errW_none, errW_some] <;> rfl), by repeat (first | (with_reducible first | exact HB.out | apply lA | apply lN | apply lD | refine lS ?_ GE101.out) | exact HB.out)⟩
        ·replace c25 := Bool.eq_false_iff.mpr c25
         subst c25
         have H1 : (some false) = some r := by rw [if_neg (show ¬ (false = true) by decide)] at H; exact H
         clear H
         have H := H1
         clear H1
         obtain rfl := Option.some.inj H
         go_wp2
         go_ret
         exact ⟨by first | rfl | (simp [errW_none, errW_some] <;> rfl) | (simp [*, errW_none, errW_some] <;> rfl), by repeat (first | (with_reducible first | exact HB.out | apply lA | apply lN | apply lD | refine lS ?_ GE101.out) | exact HB.out)⟩
       ·replace c24 := Bool.eq_false_iff.mpr c24
        subst c24
        have H1 : (if 0 ≤ (wrap64 ((t104.length : Int) - 1)) then (if (wrap64 ((t104.length : Int) - 1)) < (t104.length : Int) then (if ((rd_T52 t104 (wrap64 ((t104.length : Int) - 1))).place) < 0 then (lambrequinlaw22_InterpEnds.j2 kj18 t102 ((rd_T52 t104 (wrap64 ((t104.length : Int) - 1))).place) true l0_0 l0_1 l0_2 a0_3) else (lambrequinlaw22_InterpEnds.j2 kj18 t102 ((rd_T52 t104 (wrap64 ((t104.length : Int) - 1))).place) (decide (((rd_T52 t104 (wrap64 ((t104.length : Int) - 1))).place) ≥ (l0_0.length : Int))) l0_0 l0_1 l0_2 a0_3)) else (none)) else (none)) = some r := by rw [if_neg (show ¬ (false = true) by decide)] at H; exact H
        clear H
        have H := H1
        clear H1
        obtain ⟨ji27, hji27⟩ : ∃ j_ : Int, (wrap64 ((t104.length : Int) - 1)) = j_ := ⟨_, rfl⟩
        replace H : (if 0 ≤ (ji27) then (if (ji27) < (t104.length : Int) then (if ((rd_T52 t104 (ji27)).place) < 0 then (lambrequinlaw22_InterpEnds.j2 kj18 t102 ((rd_T52 t104 (ji27)).place) true l0_0 l0_1 l0_2 a0_3) else (lambrequinlaw22_InterpEnds.j2 kj18 t102 ((rd_T52 t104 (ji27)).place) (decide (((rd_T52 t104 (ji27)).place) ≥ (l0_0.length : Int))) l0_0 l0_1 l0_2 a0_3)) else (none)) else (none)) = some r := by first | (rw [hji27] at H; exact H) | (simp only [hji27] at H ⊢; exact H)
        have hji27w : (IntKind.i64.wrap ((t104.length : Int) - 1)) = ji27 := (i64_w _).trans hji27
        by_cases c28 : 0 ≤ (ji27)
        ·rw [if_pos c28] at H
         have c28b0 : decide (0 ≤ (ji27)) = true := decide_eq_true c28
         clear c28
         by_cases c29 : (ji27) < (t104.length : Int)
         ·rw [if_pos c29] at H
          have c29b0 : decide ((ji27) < (t104.length : Int)) = true := decide_eq_true c29
          clear c29
          have HC30 := am H
          clear H
          obtain ⟨Ao31, co31, eo31⟩ := Kd.S_slice HO_4.out
          subst eo31
          have p107 : 0 ≤ ((ji27) : Int) := of_decide_eq_true (by first | (with_reducible assumption) | assumption)
          have q107 : (ji27) < (t104.length : Int) := of_decide_eq_true (by first | (with_reducible assumption) | assumption)
          obtain ⟨ad107, A107_1, c107_1, e107, hx107_0, hx107_1, hl107_1, hi107_1⟩ := at_T52 (Kd.S_reads' HO_4.out).2.2 (ji27) p107 q107
          cases e107
          obtain ⟨ce107, hce107, hMe107, hcc107⟩ := Kd.S_get HO_4.out z52 (ji27) p107 (by first | exact q107 | exact of_decide_eq_true (by first | (with_reducible assumption) | assumption) | (have e_ := (Kd.S_reads' HO_4.out).1; omega))
          obtain ⟨ve107_1, rfl, ge107_1⟩ := k52_openM hMe107
          have hv107_1 := hcc107 1 _ rfl
          rw [add_field _ _ 1 (by omega)] at hv107_1
          replace hv107_1 := Option.some.inj (hv107_1.symm.trans hx107_1)
          rw [hv107_1] at ge107_1
          have HL107_1 := am (show Kd.R k54 54 _ _ _ _ ((rd_T52 t104 (ji27)).vars) from ge107_1)
          clear hv107_1 ge107_1
          clear hcc107 hce107
          have HR107_1 := am hi107_1
          have HC107_1 := am hl107_1
          clear hi107_1 hl107_1
          replace p107 := eq_true p107
          replace q107 := eq_true q107
          go_upto_region 10 with (fail)
          go_cut [68] (fun v68 wc => ∃ (kq : Nat) (x68_29 : Bool), v68 = .bool x68_29 ∧ Aside0 (lambrequinlaw22_InterpEnds.j2 kq t102 ((rd_T52 t104 (ji27)).place) x68_29 l0_0 l0_1 l0_2 a0_3 = some r) ∧ Aside0 (kq ≤ kj18) ∧ Aside0 (wc.heap[gb101]? = some (.cells #[(.slice A0_0 l0_0.length c0_0), (.slice A0_1 l0_1.length c0_1), (.slice A0_2 l0_2.length c0_2), .int .i64 a0_3] 43 (0, 0))) ∧ Aside0 (Kd.C k54 wc A107_1 ((rd_T52 t104 (ji27)).vars).length ((rd_T52 t104 (ji27)).vars)) ∧ Aside0 (Below w.heap.size w wc))
          case first =>
           have H := HC30.out
           clear HC30
           by_cases c32 : ((rd_T52 t104 (ji27)).place) < 0
           ·rw [if_pos c32] at H
            have c32b0 : decide (((rd_T52 t104 (ji27)).place) < 0) = true := decide_eq_true c32
            clear c32
            (first | rw [c32b0] | (simp only [i64_w, i32_w]; rw [c32b0]) | skip)
            have H' := am H
            clear H
            go_wp2
            go_meet
            case rel => exact ⟨_, (true), (by first | rfl | (simp; done) | (simp [*]; done)), H', ⟨by have := HJ5.out; have := HJ18.out; first | omega | exact Nat.le_refl _⟩, ⟨by (with_reducible repeat (first | refine bN ?_ _ | refine bD ?_ | refine bA ?_ _)); exact BK101.out⟩, ⟨by repeat (first | (with_reducible exact HR107_1.out) | (with_reducible refine Kd.C_alloc ?_ _) | (with_reducible refine Kd.C_drewN ?_ _) | (with_reducible refine Kd.C_drew ?_) | exact HR107_1.out)⟩, ⟨by repeat (first | (with_reducible first | exact HB.out | apply lA | apply lN | apply lD | refine lS ?_ GE101.out) | exact HB.out)⟩⟩
           ·rw [if_neg c32] at H
            have c32b0 : decide (((rd_T52 t104 (ji27)).place) < 0) = false := decide_eq_false c32
            clear c32
            (first | rw [c32b0] | (simp only [i64_w, i32_w]; rw [c32b0]) | skip)
            have H' := am H
            clear H
            have hcz33_0 : wc.cell? ⟨gb101, 0, none⟩ = some (.slice A0_0 l0_0.length c0_0) := (blk_cell BK101.out 0).trans rfl
            have hcz33_1 : wc.cell? ⟨gb101, 1, none⟩ = some (.slice A0_1 l0_1.length c0_1) := (blk_cell BK101.out 1).trans rfl
            have hcz33_2 : wc.cell? ⟨gb101, 2, none⟩ = some (.slice A0_2 l0_2.length c0_2) := (blk_cell BK101.out 2).trans rfl
            have hcz33_3 : wc.cell? ⟨gb101, 3, none⟩ = some (.int .i64 a0_3) := (blk_cell BK101.out 3).trans rfl
            have hfz33_0 := blk_frozen BK101.out 0
            have hfz33_1 := blk_frozen BK101.out 1
            have hfz33_2 := blk_frozen BK101.out 2
            have hfz33_3 := blk_frozen BK101.out 3
            go_wp2
            go_meet
            case rel => exact ⟨_, (decide (((rd_T52 t104 (ji27)).place) ≥ (l0_0.length : Int))), (by first | rfl | (simp; done) | (simp only [← hji27] <;> (first | rfl | simp)) | (simp [*]; done)), H', ⟨by have := HJ5.out; have := HJ18.out; first | omega | exact Nat.le_refl _⟩, ⟨by (with_reducible repeat (first | refine bN ?_ _ | refine bD ?_ | refine bA ?_ _)); exact BK101.out⟩, ⟨by repeat (first | (with_reducible exact HR107_1.out) | (with_reducible refine Kd.C_alloc ?_ _) | (with_reducible refine Kd.C_drewN ?_ _) | (with_reducible refine Kd.C_drew ?_) | exact HR107_1.out)⟩, ⟨by repeat (first | (with_reducible first | exact HB.out | apply lA | apply lN | apply lD | refine lS ?_ GE101.out) | exact HB.out)⟩⟩
          case rest =>
           clear HC30
           try clear c1
           try clear p1
           try clear q1
           try clear hx1
           try clear c2
           try clear p2
           try clear c3
           try clear c4
           try clear p6
           try clear c9
           try clear c10
           try clear p10
           try clear q10
           try clear hx10
           try clear c13
           try clear c13b0
           try clear c13b1
           try clear c13b2
           try clear c16
           try clear c17
           try clear c20
           try clear c20b0
           try clear c20b1
           try clear c20b2
           try clear c24
           try clear c25
           try clear c28
           try clear c28b0
           try clear c29
           try clear c29b0
           try clear c32
           try clear c32b0
           try clear c33
           try clear hcz11_0
           try clear hcz11_1
           try clear hcz11_2
           try clear hcz11_3
           try clear hcz14_0
           try clear hcz14_1
           try clear hcz14_2
           try clear hcz14_3
           try clear hcz15_0
           try clear hcz15_1
           try clear hcz15_2
           try clear hcz15_3
           try clear hcz23_0
           try clear hcz23_1
           try clear hcz23_2
           try clear hcz23_3
           try clear hcz33_0
           try clear hcz33_1
           try clear hcz33_2
           try clear hcz33_3
           try clear hcz9_0
           try clear hcz9_1
           try clear hcz9_2
           try clear hcz9_3
           try clear hfz11_0
           try clear hfz11_1
           try clear hfz11_2
           try clear hfz11_3
           try clear hfz14_0
           try clear hfz14_1
           try clear hfz14_2
           try clear hfz14_3
           try clear hfz15_0
           try clear hfz15_1
           try clear hfz15_2
           try clear hfz15_3
           try clear hfz23_0
           try clear hfz23_1
           try clear hfz23_2
           try clear hfz23_3
           try clear hfz33_0
           try clear hfz33_1
           try clear hfz33_2
           try clear hfz33_3
           try clear hfz9_0
           try clear hfz9_1
           try clear hfz9_2
           try clear hfz9_3
           try clear hx107_0
           try clear hx107_1
           try clear p107
           try clear p2
           try clear q107
           obtain ⟨kq, x68_29, rfl, HA, HJ29, BK101, HR107_1, HB⟩ := hcut
           cases kq with
           | zero => exact absurd HA.out (by simp [lambrequinlaw22_InterpEnds.j2])
           | succ kj29 =>
            have H := HA.out
            clear HA
            simp only [lambrequinlaw22_InterpEnds.j2] at H
            by_cases c34 : x68_29 = true
            ·subst c34
             have H1 : (some false) = some r := by rw [if_pos rfl] at H; exact H
             clear H
             have H := H1
             clear H1
             obtain rfl := Option.some.inj H
             go_wp2
             go_ret
             exact ⟨by first | rfl | (simp [errW_none, errW_some] <;> rfl) | (simp only [← hji27]; first | rfl | (simp [errW_none, errW_some] <;> rfl)) | (simp [*, errW_none, errW_some] <;> rfl), by repeat (first | (with_reducible first | exact HB.out | apply lA | apply lN | apply lD | refine lS ?_ GE101.out) | exact HB.out)⟩
            ·replace c34 := Bool.eq_false_iff.mpr c34
             subst c34
             have H1 : (if 0 ≤ ((rd_T52 t104 (ji27)).place) then (if ((rd_T52 t104 (ji27)).place) < (l0_0.length : Int) then (if ((rd_T30 l0_0 ((rd_T52 t104 (ji27)).place)).kind) = 7 then (if ((rd_T30 l0_0 ((rd_T52 t104 (ji27)).place)).a) < 0 then (if t102 = true then (some true) else (some false)) else (if ((rd_T30 l0_0 ((rd_T52 t104 (ji27)).place)).a) ≥ (l0_0.length : Int) then (if t102 = true then (some true) else (some false)) else (if ((rd_T30 l0_0 ((rd_T52 t104 (ji27)).place)).b) < 0 then (if t102 = true then (some true) else (some false)) else (if t102 = true then (if ((rd_T30 l0_0 ((rd_T52 t104 (ji27)).place)).b) ≥ (l0_0.length : Int) then (some true) else (some (((rd_T30 l0_0 ((rd_T52 t104 (ji27)).place)).kind) == 9))) else (some false))))) else (if ((rd_T30 l0_0 ((rd_T52 t104 (ji27)).place)).kind) = 8 then (if ((rd_T30 l0_0 ((rd_T52 t104 (ji27)).place)).a) < 0 then (if t102 = true then (some true) else (some false)) else (if ((rd_T30 l0_0 ((rd_T52 t104 (ji27)).place)).a) ≥ (l0_0.length : Int) then (if t102 = true then (some true) else (some false)) else (if t102 = true then (some (((rd_T30 l0_0 ((rd_T52 t104 (ji27)).place)).kind) == 9)) else (some false)))) else (if t102 = true then (if ((rd_T52 t104 (ji27)).place) = (wrap64 ((l0_0.length : Int) - 1)) then (some true) else (some (((rd_T30 l0_0 ((rd_T52 t104 (ji27)).place)).kind) == 9))) else (some false)))) else (none)) else (none)) = some r := by rw [if_neg (show ¬ (false = true) by decide)] at H; exact H
             clear H
             have H := H1
             clear H1
             by_cases c35 : 0 ≤ ((rd_T52 t104 (ji27)).place)
             ·rw [if_pos c35] at H
              have c35b0 : decide (0 ≤ ((rd_T52 t104 (ji27)).place)) = true := decide_eq_true c35
              clear c35
              by_cases c36 : ((rd_T52 t104 (ji27)).place) < (l0_0.length : Int)
              ·rw [if_pos c36] at H
               have c36b0 : decide (((rd_T52 t104 (ji27)).place) < (l0_0.length : Int)) = true := decide_eq_true c36
               clear c36
               by_cases c37 : ((rd_T30 l0_0 ((rd_T52 t104 (ji27)).place)).kind) = 7
               ·rw [if_pos c37] at H
                have c37b0 : (((rd_T30 l0_0 ((rd_T52 t104 (ji27)).place)).kind) == 7) = true := beq_iff_eq.mpr c37
                have c37b1 : (((rd_T30 l0_0 ((rd_T52 t104 (ji27)).place)).kind) != 7) = false := bne_eq_false_iff_eq.mpr c37
                clear c37
                by_cases c38 : ((rd_T30 l0_0 ((rd_T52 t104 (ji27)).place)).a) < 0
                ·rw [if_pos c38] at H
                 have c38b0 : decide (((rd_T30 l0_0 ((rd_T52 t104 (ji27)).place)).a) < 0) = true := decide_eq_true c38
                 clear c38
                 by_cases c39 : t102 = true
                 ·subst c39
                  have H1 : (some true) = some r := by rw [if_pos rfl] at H; exact H
                  clear H
                  have H := H1
                  clear H1
                  obtain rfl := Option.some.inj H
                  have hcz40_0 : wc.cell? ⟨gb101, 0, none⟩ = some (.slice A0_0 l0_0.length c0_0) := (blk_cell BK101.out 0).trans rfl
                  have hcz40_1 : wc.cell? ⟨gb101, 1, none⟩ = some (.slice A0_1 l0_1.length c0_1) := (blk_cell BK101.out 1).trans rfl
                  have hcz40_2 : wc.cell? ⟨gb101, 2, none⟩ = some (.slice A0_2 l0_2.length c0_2) := (blk_cell BK101.out 2).trans rfl
                  have hcz40_3 : wc.cell? ⟨gb101, 3, none⟩ = some (.int .i64 a0_3) := (blk_cell BK101.out 3).trans rfl
                  have hfz40_0 := blk_frozen BK101.out 0
                  have hfz40_1 := blk_frozen BK101.out 1
                  have hfz40_2 := blk_frozen BK101.out 2
                  have hfz40_3 := blk_frozen BK101.out 3
                  have p108 : 0 ≤ (((rd_T52 t104 (ji27)).place) : Int) := of_decide_eq_true (by first | (with_reducible assumption) | assumption)
                  have q108 : ((rd_T52 t104 (ji27)).place) < (l0_0.length : Int) := of_decide_eq_true (by first | (with_reducible assumption) | assumption)
                  obtain ⟨ad108, e108, hx108_0, hx108_1, hx108_2, hx108_3, hx108_4, hx108_5, hx108_6, hx108_7⟩ := at_T30 HR0_0.out ((rd_T52 t104 (ji27)).place) p108 q108
                  cases e108
                  replace hx108_0 := (HB.out.cell (blt_ hx108_0)).trans hx108_0
                  replace hx108_1 := (HB.out.cell (blt_ hx108_1)).trans hx108_1
                  replace hx108_2 := (HB.out.cell (blt_ hx108_2)).trans hx108_2
                  replace hx108_3 := (HB.out.cell (blt_ hx108_3)).trans hx108_3
                  replace hx108_4 := (HB.out.cell (blt_ hx108_4)).trans hx108_4
                  replace hx108_5 := (HB.out.cell (blt_ hx108_5)).trans hx108_5
                  replace hx108_6 := (HB.out.cell (blt_ hx108_6)).trans hx108_6
                  replace hx108_7 := (HB.out.cell (blt_ hx108_7)).trans hx108_7
                  replace p108 := eq_true p108
                  replace q108 := eq_true q108
                  go_wp2_with (first | ((with_reducible refine gate_dst (N := 6) rfl ?_); (try (refine gate_guard (by rfl) ?_; dsimp only)); refine box_event ?hg (N := 6) ?hd (cs := #[.int .i64 0, .string (⟨#[]⟩ : ByteArray), .string (⟨#[]⟩ : ByteArray), .string (⟨#[]⟩ : ByteArray), .string (⟨#[]⟩ : ByteArray), .int .i64 0, .int .i64 0, .int .i64 0]) (t := 30) ?hr ?_; (case hd => rfl); (case hg => rfl); (case hr => first | (go_simp; done) | (go_simp; rfl)); intro gb109 hg w41 hbox hb; replace HR107_1 := am (Kd.C_below (by repeat (first | (with_reducible exact HR107_1.out) | (with_reducible refine Kd.C_alloc ?_ _) | (with_reducible refine Kd.C_drewN ?_ _) | (with_reducible refine Kd.C_drew ?_) | exact HR107_1.out)) hb); have BK109 := am (hbox); have GW109 := am ((by rw [hg]; exact (below_size (by repeat (first | (with_reducible first | exact HB.out | apply lA | apply lN | apply lD | refine lS ?_ GE101.out) | exact HB.out))) : w.heap.size ≤ gb109)); have GE109 := am ((by rw [hg]; exact (below_size (by repeat (first | (with_reducible first | exact HB.out | apply lA | apply lN | apply lD | refine lS ?_ GE101.out) | exact HB.out))) : w.heap.size ≤ gb109)); replace HB := am (below_step (by repeat (first | (with_reducible first | exact HB.out | apply lA | apply lN | apply lD | refine lS ?_ GE101.out) | exact HB.out)) hb); have NB101_109 := am ((by rw [hg]; exact Nat.ne_of_lt (blk_lt (g := gb101) (o := .cells #[.slice (some ad108) l0_0.length c0_0, .slice A0_1 l0_1.length c0_1, .slice A0_2 l0_2.length c0_2, .int .i64 a0_3] 43 (0, 0)) (by (with_reducible repeat (first | refine bN ?_ _ | refine bD ?_ | refine bA ?_ _)); exact BK101.out)) : gb101 ≠ gb109)); have NB109_101 := am ((by rw [hg]; exact Nat.ne_of_gt (blk_lt (g := gb101) (o := .cells #[.slice (some ad108) l0_0.length c0_0, .slice A0_1 l0_1.length c0_1, .slice A0_2 l0_2.length c0_2, .int .i64 a0_3] 43 (0, 0)) (by (with_reducible repeat (first | refine bN ?_ _ | refine bD ?_ | refine bA ?_ _)); exact BK101.out)) : gb109 ≠ gb101)); replace BK101 := am (blk_below (g := gb101) (o := .cells #[.slice (some ad108) l0_0.length c0_0, .slice A0_1 l0_1.length c0_1, .slice A0_2 l0_2.length c0_2, .int .i64 a0_3] 43 (0, 0)) (by (with_reducible repeat (first | refine bN ?_ _ | refine bD ?_ | refine bA ?_ _)); exact BK101.out) hb); clear hb hbox hg; have hnb42 := NB109_101.out; have hnc42 := NB101_109.out; have hcz43_0 : w41.cell? ⟨gb109, 0, none⟩ = some (.int .i64 0) := (blk_cell BK109.out 0).trans rfl; have hcz43_1 : w41.cell? ⟨gb109, 1, none⟩ = some (.string (⟨#[]⟩ : ByteArray)) := (blk_cell BK109.out 1).trans rfl; have hcz43_2 : w41.cell? ⟨gb109, 2, none⟩ = some (.string (⟨#[]⟩ : ByteArray)) := (blk_cell BK109.out 2).trans rfl; have hcz43_3 : w41.cell? ⟨gb109, 3, none⟩ = some (.string (⟨#[]⟩ : ByteArray)) := (blk_cell BK109.out 3).trans rfl; have hcz43_4 : w41.cell? ⟨gb109, 4, none⟩ = some (.string (⟨#[]⟩ : ByteArray)) := (blk_cell BK109.out 4).trans rfl; have hcz43_5 : w41.cell? ⟨gb109, 5, none⟩ = some (.int .i64 0) := (blk_cell BK109.out 5).trans rfl; have hcz43_6 : w41.cell? ⟨gb109, 6, none⟩ = some (.int .i64 0) := (blk_cell BK109.out 6).trans rfl; have hcz43_7 : w41.cell? ⟨gb109, 7, none⟩ = some (.int .i64 0) := (blk_cell BK109.out 7).trans rfl; have hfz43_0 := blk_frozen BK109.out 0; have hfz43_1 := blk_frozen BK109.out 1; have hfz43_2 := blk_frozen BK109.out 2; have hfz43_3 := blk_frozen BK109.out 3; have hfz43_4 := blk_frozen BK109.out 4; have hfz43_5 := blk_frozen BK109.out 5; have hfz43_6 := blk_frozen BK109.out 6; have hfz43_7 := blk_frozen BK109.out 7; have hcz44_0 : w41.cell? ⟨gb101, 0, none⟩ = some (.slice (some ad108) l0_0.length c0_0) := (blk_cell BK101.out 0).trans rfl; have hcz44_1 : w41.cell? ⟨gb101, 1, none⟩ = some (.slice A0_1 l0_1.length c0_1) := (blk_cell BK101.out 1).trans rfl; have hcz44_2 : w41.cell? ⟨gb101, 2, none⟩ = some (.slice A0_2 l0_2.length c0_2) := (blk_cell BK101.out 2).trans rfl; have hcz44_3 : w41.cell? ⟨gb101, 3, none⟩ = some (.int .i64 a0_3) := (blk_cell BK101.out 3).trans rfl; have hfz44_0 := blk_frozen BK101.out 0; have hfz44_1 := blk_frozen BK101.out 1; have hfz44_2 := blk_frozen BK101.out 2; have hfz44_3 := blk_frozen BK101.out 3))
                  go_ret
                  exact ⟨by first | rfl | (simp [errW_none, errW_some] <;> rfl) | (simp only [← hji27]; first | rfl | (simp [errW_none, errW_some] <;> rfl)) | (simp [*, errW_none, errW_some] <;> rfl), by repeat (first | (with_reducible first | exact HB.out | apply lA | apply lN | apply lD | refine lS ?_ GE101.out | refine lS ?_ GE109.out) | exact HB.out)⟩
                 ·replace c39 := Bool.eq_false_iff.mpr c39
                  subst c39
                  have H1 : (some false) = some r := by rw [if_neg (show ¬ (false = true) by decide)] at H; exact H
                  clear H
                  have H := H1
                  clear H1
                  obtain rfl := Option.some.inj H
                  have hcz45_0 : wc.cell? ⟨gb101, 0, none⟩ = some (.slice A0_0 l0_0.length c0_0) := (blk_cell BK101.out 0).trans rfl
                  have hcz45_1 : wc.cell? ⟨gb101, 1, none⟩ = some (.slice A0_1 l0_1.length c0_1) := (blk_cell BK101.out 1).trans rfl
                  have hcz45_2 : wc.cell? ⟨gb101, 2, none⟩ = some (.slice A0_2 l0_2.length c0_2) := (blk_cell BK101.out 2).trans rfl
                  have hcz45_3 : wc.cell? ⟨gb101, 3, none⟩ = some (.int .i64 a0_3) := (blk_cell BK101.out 3).trans rfl
                  have hfz45_0 := blk_frozen BK101.out 0
                  have hfz45_1 := blk_frozen BK101.out 1
                  have hfz45_2 := blk_frozen BK101.out 2
                  have hfz45_3 := blk_frozen BK101.out 3
                  have p108 : 0 ≤ (((rd_T52 t104 (ji27)).place) : Int) := of_decide_eq_true (by first | (with_reducible assumption) | assumption)
                  have q108 : ((rd_T52 t104 (ji27)).place) < (l0_0.length : Int) := of_decide_eq_true (by first | (with_reducible assumption) | assumption)
                  obtain ⟨ad108, e108, hx108_0, hx108_1, hx108_2, hx108_3, hx108_4, hx108_5, hx108_6, hx108_7⟩ := at_T30 HR0_0.out ((rd_T52 t104 (ji27)).place) p108 q108
                  cases e108
                  replace hx108_0 := (HB.out.cell (blt_ hx108_0)).trans hx108_0
                  replace hx108_1 := (HB.out.cell (blt_ hx108_1)).trans hx108_1
                  replace hx108_2 := (HB.out.cell (blt_ hx108_2)).trans hx108_2
                  replace hx108_3 := (HB.out.cell (blt_ hx108_3)).trans hx108_3
                  replace hx108_4 := (HB.out.cell (blt_ hx108_4)).trans hx108_4
                  replace hx108_5 := (HB.out.cell (blt_ hx108_5)).trans hx108_5
                  replace hx108_6 := (HB.out.cell (blt_ hx108_6)).trans hx108_6
                  replace hx108_7 := (HB.out.cell (blt_ hx108_7)).trans hx108_7
                  replace p108 := eq_true p108
                  replace q108 := eq_true q108
                  go_wp2_with (first | ((with_reducible refine gate_dst (N := 6) rfl ?_); (try (refine gate_guard (by rfl) ?_; dsimp only)); refine box_event ?hg (N := 6) ?hd (cs := #[.int .i64 0, .string (⟨#[]⟩ : ByteArray), .string (⟨#[]⟩ : ByteArray), .string (⟨#[]⟩ : ByteArray), .string (⟨#[]⟩ : ByteArray), .int .i64 0, .int .i64 0, .int .i64 0]) (t := 30) ?hr ?_; (case hd => rfl); (case hg => rfl); (case hr => first | (go_simp; done) | (go_simp; rfl)); intro gb109 hg w46 hbox hb; replace HR107_1 := am (Kd.C_below (by repeat (first | (with_reducible exact HR107_1.out) | (with_reducible refine Kd.C_alloc ?_ _) | (with_reducible refine Kd.C_drewN ?_ _) | (with_reducible refine Kd.C_drew ?_) | exact HR107_1.out)) hb); have BK109 := am (hbox); have GW109 := am ((by rw [hg]; exact (below_size (by repeat (first | (with_reducible first | exact HB.out | apply lA | apply lN | apply lD | refine lS ?_ GE101.out) | exact HB.out))) : w.heap.size ≤ gb109)); have GE109 := am ((by rw [hg]; exact (below_size (by repeat (first | (with_reducible first | exact HB.out | apply lA | apply lN | apply lD | refine lS ?_ GE101.out) | exact HB.out))) : w.heap.size ≤ gb109)); replace HB := am (below_step (by repeat (first | (with_reducible first | exact HB.out | apply lA | apply lN | apply lD | refine lS ?_ GE101.out) | exact HB.out)) hb); have NB101_109 := am ((by rw [hg]; exact Nat.ne_of_lt (blk_lt (g := gb101) (o := .cells #[.slice (some ad108) l0_0.length c0_0, .slice A0_1 l0_1.length c0_1, .slice A0_2 l0_2.length c0_2, .int .i64 a0_3] 43 (0, 0)) (by (with_reducible repeat (first | refine bN ?_ _ | refine bD ?_ | refine bA ?_ _)); exact BK101.out)) : gb101 ≠ gb109)); have NB109_101 := am ((by rw [hg]; exact Nat.ne_of_gt (blk_lt (g := gb101) (o := .cells #[.slice (some ad108) l0_0.length c0_0, .slice A0_1 l0_1.length c0_1, .slice A0_2 l0_2.length c0_2, .int .i64 a0_3] 43 (0, 0)) (by (with_reducible repeat (first | refine bN ?_ _ | refine bD ?_ | refine bA ?_ _)); exact BK101.out)) : gb109 ≠ gb101)); replace BK101 := am (blk_below (g := gb101) (o := .cells #[.slice (some ad108) l0_0.length c0_0, .slice A0_1 l0_1.length c0_1, .slice A0_2 l0_2.length c0_2, .int .i64 a0_3] 43 (0, 0)) (by (with_reducible repeat (first | refine bN ?_ _ | refine bD ?_ | refine bA ?_ _)); exact BK101.out) hb); clear hb hbox hg; have hnb47 := NB109_101.out; have hnc47 := NB101_109.out; have hcz48_0 : w46.cell? ⟨gb109, 0, none⟩ = some (.int .i64 0) := (blk_cell BK109.out 0).trans rfl; have hcz48_1 : w46.cell? ⟨gb109, 1, none⟩ = some (.string (⟨#[]⟩ : ByteArray)) := (blk_cell BK109.out 1).trans rfl; have hcz48_2 : w46.cell? ⟨gb109, 2, none⟩ = some (.string (⟨#[]⟩ : ByteArray)) := (blk_cell BK109.out 2).trans rfl; have hcz48_3 : w46.cell? ⟨gb109, 3, none⟩ = some (.string (⟨#[]⟩ : ByteArray)) := (blk_cell BK109.out 3).trans rfl; have hcz48_4 : w46.cell? ⟨gb109, 4, none⟩ = some (.string (⟨#[]⟩ : ByteArray)) := (blk_cell BK109.out 4).trans rfl; have hcz48_5 : w46.cell? ⟨gb109, 5, none⟩ = some (.int .i64 0) := (blk_cell BK109.out 5).trans rfl; have hcz48_6 : w46.cell? ⟨gb109, 6, none⟩ = some (.int .i64 0) := (blk_cell BK109.out 6).trans rfl; have hcz48_7 : w46.cell? ⟨gb109, 7, none⟩ = some (.int .i64 0) := (blk_cell BK109.out 7).trans rfl; have hfz48_0 := blk_frozen BK109.out 0; have hfz48_1 := blk_frozen BK109.out 1; have hfz48_2 := blk_frozen BK109.out 2; have hfz48_3 := blk_frozen BK109.out 3; have hfz48_4 := blk_frozen BK109.out 4; have hfz48_5 := blk_frozen BK109.out 5; have hfz48_6 := blk_frozen BK109.out 6; have hfz48_7 := blk_frozen BK109.out 7; have hcz49_0 : w46.cell? ⟨gb101, 0, none⟩ = some (.slice (some ad108) l0_0.length c0_0) := (blk_cell BK101.out 0).trans rfl; have hcz49_1 : w46.cell? ⟨gb101, 1, none⟩ = some (.slice A0_1 l0_1.length c0_1) := (blk_cell BK101.out 1).trans rfl; have hcz49_2 : w46.cell? ⟨gb101, 2, none⟩ = some (.slice A0_2 l0_2.length c0_2) := (blk_cell BK101.out 2).trans rfl; have hcz49_3 : w46.cell? ⟨gb101, 3, none⟩ = some (.int .i64 a0_3) := (blk_cell BK101.out 3).trans rfl; have hfz49_0 := blk_frozen BK101.out 0; have hfz49_1 := blk_frozen BK101.out 1; have hfz49_2 := blk_frozen BK101.out 2; have hfz49_3 := blk_frozen BK101.out 3))
                  go_ret
                  exact ⟨by first | rfl | (simp [errW_none, errW_some] <;> rfl) | (simp only [← hji27]; first | rfl | (simp [errW_none, errW_some] <;> rfl)) | (simp [*, errW_none, errW_some] <;> rfl), by repeat (first | (with_reducible first | exact HB.out | apply lA | apply lN | apply lD | refine lS ?_ GE101.out | refine lS ?_ GE109.out) | exact HB.out)⟩
                ·rw [if_neg c38] at H
                 have c38b0 : decide (((rd_T30 l0_0 ((rd_T52 t104 (ji27)).place)).a) < 0) = false := decide_eq_false c38
                 clear c38
                 by_cases c50 : ((rd_T30 l0_0 ((rd_T52 t104 (ji27)).place)).a) ≥ (l0_0.length : Int)
                 ·rw [if_pos c50] at H
                  have c50b0 : decide ((l0_0.length : Int) ≤ ((rd_T30 l0_0 ((rd_T52 t104 (ji27)).place)).a)) = true := decide_eq_true c50
                  clear c50
                  by_cases c51 : t102 = true
                  ·subst c51
                   have H1 : (some true) = some r := by rw [if_pos rfl] at H; exact H
                   clear H
                   have H := H1
                   clear H1
                   obtain rfl := Option.some.inj H
                   have hcz52_0 : wc.cell? ⟨gb101, 0, none⟩ = some (.slice A0_0 l0_0.length c0_0) := (blk_cell BK101.out 0).trans rfl
                   have hcz52_1 : wc.cell? ⟨gb101, 1, none⟩ = some (.slice A0_1 l0_1.length c0_1) := (blk_cell BK101.out 1).trans rfl
                   have hcz52_2 : wc.cell? ⟨gb101, 2, none⟩ = some (.slice A0_2 l0_2.length c0_2) := (blk_cell BK101.out 2).trans rfl
                   have hcz52_3 : wc.cell? ⟨gb101, 3, none⟩ = some (.int .i64 a0_3) := (blk_cell BK101.out 3).trans rfl
                   have hfz52_0 := blk_frozen BK101.out 0
                   have hfz52_1 := blk_frozen BK101.out 1
                   have hfz52_2 := blk_frozen BK101.out 2
                   have hfz52_3 := blk_frozen BK101.out 3
                   have p108 : 0 ≤ (((rd_T52 t104 (ji27)).place) : Int) := of_decide_eq_true (by first | (with_reducible assumption) | assumption)
                   have q108 : ((rd_T52 t104 (ji27)).place) < (l0_0.length : Int) := of_decide_eq_true (by first | (with_reducible assumption) | assumption)
                   obtain ⟨ad108, e108, hx108_0, hx108_1, hx108_2, hx108_3, hx108_4, hx108_5, hx108_6, hx108_7⟩ := at_T30 HR0_0.out ((rd_T52 t104 (ji27)).place) p108 q108
                   cases e108
                   replace hx108_0 := (HB.out.cell (blt_ hx108_0)).trans hx108_0
                   replace hx108_1 := (HB.out.cell (blt_ hx108_1)).trans hx108_1
                   replace hx108_2 := (HB.out.cell (blt_ hx108_2)).trans hx108_2
                   replace hx108_3 := (HB.out.cell (blt_ hx108_3)).trans hx108_3
                   replace hx108_4 := (HB.out.cell (blt_ hx108_4)).trans hx108_4
                   replace hx108_5 := (HB.out.cell (blt_ hx108_5)).trans hx108_5
                   replace hx108_6 := (HB.out.cell (blt_ hx108_6)).trans hx108_6
                   replace hx108_7 := (HB.out.cell (blt_ hx108_7)).trans hx108_7
                   replace p108 := eq_true p108
                   replace q108 := eq_true q108
                   go_wp2_with (first | ((with_reducible refine gate_dst (N := 6) rfl ?_); (try (refine gate_guard (by rfl) ?_; dsimp only)); refine box_event ?hg (N := 6) ?hd (cs := #[.int .i64 0, .string (⟨#[]⟩ : ByteArray), .string (⟨#[]⟩ : ByteArray), .string (⟨#[]⟩ : ByteArray), .string (⟨#[]⟩ : ByteArray), .int .i64 0, .int .i64 0, .int .i64 0]) (t := 30) ?hr ?_; (case hd => rfl); (case hg => rfl); (case hr => first | (go_simp; done) | (go_simp; rfl)); intro gb109 hg w53 hbox hb; replace HR107_1 := am (Kd.C_below (by repeat (first | (with_reducible exact HR107_1.out) | (with_reducible refine Kd.C_alloc ?_ _) | (with_reducible refine Kd.C_drewN ?_ _) | (with_reducible refine Kd.C_drew ?_) | exact HR107_1.out)) hb); have BK109 := am (hbox); have GW109 := am ((by rw [hg]; exact (below_size (by repeat (first | (with_reducible first | exact HB.out | apply lA | apply lN | apply lD | refine lS ?_ GE101.out) | exact HB.out))) : w.heap.size ≤ gb109)); have GE109 := am ((by rw [hg]; exact (below_size (by repeat (first | (with_reducible first | exact HB.out | apply lA | apply lN | apply lD | refine lS ?_ GE101.out) | exact HB.out))) : w.heap.size ≤ gb109)); replace HB := am (below_step (by repeat (first | (with_reducible first | exact HB.out | apply lA | apply lN | apply lD | refine lS ?_ GE101.out) | exact HB.out)) hb); have NB101_109 := am ((by rw [hg]; exact Nat.ne_of_lt (blk_lt (g := gb101) (o := .cells #[.slice (some ad108) l0_0.length c0_0, .slice A0_1 l0_1.length c0_1, .slice A0_2 l0_2.length c0_2, .int .i64 a0_3] 43 (0, 0)) (by (with_reducible repeat (first | refine bN ?_ _ | refine bD ?_ | refine bA ?_ _)); exact BK101.out)) : gb101 ≠ gb109)); have NB109_101 := am ((by rw [hg]; exact Nat.ne_of_gt (blk_lt (g := gb101) (o := .cells #[.slice (some ad108) l0_0.length c0_0, .slice A0_1 l0_1.length c0_1, .slice A0_2 l0_2.length c0_2, .int .i64 a0_3] 43 (0, 0)) (by (with_reducible repeat (first | refine bN ?_ _ | refine bD ?_ | refine bA ?_ _)); exact BK101.out)) : gb109 ≠ gb101)); replace BK101 := am (blk_below (g := gb101) (o := .cells #[.slice (some ad108) l0_0.length c0_0, .slice A0_1 l0_1.length c0_1, .slice A0_2 l0_2.length c0_2, .int .i64 a0_3] 43 (0, 0)) (by (with_reducible repeat (first | refine bN ?_ _ | refine bD ?_ | refine bA ?_ _)); exact BK101.out) hb); clear hb hbox hg; have hnb54 := NB109_101.out; have hnc54 := NB101_109.out; have hcz55_0 : w53.cell? ⟨gb109, 0, none⟩ = some (.int .i64 0) := (blk_cell BK109.out 0).trans rfl; have hcz55_1 : w53.cell? ⟨gb109, 1, none⟩ = some (.string (⟨#[]⟩ : ByteArray)) := (blk_cell BK109.out 1).trans rfl; have hcz55_2 : w53.cell? ⟨gb109, 2, none⟩ = some (.string (⟨#[]⟩ : ByteArray)) := (blk_cell BK109.out 2).trans rfl; have hcz55_3 : w53.cell? ⟨gb109, 3, none⟩ = some (.string (⟨#[]⟩ : ByteArray)) := (blk_cell BK109.out 3).trans rfl; have hcz55_4 : w53.cell? ⟨gb109, 4, none⟩ = some (.string (⟨#[]⟩ : ByteArray)) := (blk_cell BK109.out 4).trans rfl; have hcz55_5 : w53.cell? ⟨gb109, 5, none⟩ = some (.int .i64 0) := (blk_cell BK109.out 5).trans rfl; have hcz55_6 : w53.cell? ⟨gb109, 6, none⟩ = some (.int .i64 0) := (blk_cell BK109.out 6).trans rfl; have hcz55_7 : w53.cell? ⟨gb109, 7, none⟩ = some (.int .i64 0) := (blk_cell BK109.out 7).trans rfl; have hfz55_0 := blk_frozen BK109.out 0; have hfz55_1 := blk_frozen BK109.out 1; have hfz55_2 := blk_frozen BK109.out 2; have hfz55_3 := blk_frozen BK109.out 3; have hfz55_4 := blk_frozen BK109.out 4; have hfz55_5 := blk_frozen BK109.out 5; have hfz55_6 := blk_frozen BK109.out 6; have hfz55_7 := blk_frozen BK109.out 7; have hcz56_0 : w53.cell? ⟨gb101, 0, none⟩ = some (.slice (some ad108) l0_0.length c0_0) := (blk_cell BK101.out 0).trans rfl; have hcz56_1 : w53.cell? ⟨gb101, 1, none⟩ = some (.slice A0_1 l0_1.length c0_1) := (blk_cell BK101.out 1).trans rfl; have hcz56_2 : w53.cell? ⟨gb101, 2, none⟩ = some (.slice A0_2 l0_2.length c0_2) := (blk_cell BK101.out 2).trans rfl; have hcz56_3 : w53.cell? ⟨gb101, 3, none⟩ = some (.int .i64 a0_3) := (blk_cell BK101.out 3).trans rfl; have hfz56_0 := blk_frozen BK101.out 0; have hfz56_1 := blk_frozen BK101.out 1; have hfz56_2 := blk_frozen BK101.out 2; have hfz56_3 := blk_frozen BK101.out 3))
                   go_ret
                   exact ⟨by first | rfl | (simp [errW_none, errW_some] <;> rfl) | (simp only [← hji27]; first | rfl | (simp [errW_none, errW_some] <;> rfl)) | (simp [*, errW_none, errW_some] <;> rfl), by repeat (first | (with_reducible first | exact HB.out | apply lA | apply lN | apply lD | refine lS ?_ GE101.out | refine lS ?_ GE109.out) | exact HB.out)⟩
                  ·replace c51 := Bool.eq_false_iff.mpr c51
                   subst c51
                   have H1 : (some false) = some r := by rw [if_neg (show ¬ (false = true) by decide)] at H; exact H
                   clear H
                   have H := H1
                   clear H1
                   obtain rfl := Option.some.inj H
                   have hcz57_0 : wc.cell? ⟨gb101, 0, none⟩ = some (.slice A0_0 l0_0.length c0_0) := (blk_cell BK101.out 0).trans rfl
                   have hcz57_1 : wc.cell? ⟨gb101, 1, none⟩ = some (.slice A0_1 l0_1.length c0_1) := (blk_cell BK101.out 1).trans rfl
                   have hcz57_2 : wc.cell? ⟨gb101, 2, none⟩ = some (.slice A0_2 l0_2.length c0_2) := (blk_cell BK101.out 2).trans rfl
                   have hcz57_3 : wc.cell? ⟨gb101, 3, none⟩ = some (.int .i64 a0_3) := (blk_cell BK101.out 3).trans rfl
                   have hfz57_0 := blk_frozen BK101.out 0
                   have hfz57_1 := blk_frozen BK101.out 1
                   have hfz57_2 := blk_frozen BK101.out 2
                   have hfz57_3 := blk_frozen BK101.out 3
                   have p108 : 0 ≤ (((rd_T52 t104 (ji27)).place) : Int) := of_decide_eq_true (by first | (with_reducible assumption) | assumption)
                   have q108 : ((rd_T52 t104 (ji27)).place) < (l0_0.length : Int) := of_decide_eq_true (by first | (with_reducible assumption) | assumption)
                   obtain ⟨ad108, e108, hx108_0, hx108_1, hx108_2, hx108_3, hx108_4, hx108_5, hx108_6, hx108_7⟩ := at_T30 HR0_0.out ((rd_T52 t104 (ji27)).place) p108 q108
                   cases e108
                   replace hx108_0 := (HB.out.cell (blt_ hx108_0)).trans hx108_0
                   replace hx108_1 := (HB.out.cell (blt_ hx108_1)).trans hx108_1
                   replace hx108_2 := (HB.out.cell (blt_ hx108_2)).trans hx108_2
                   replace hx108_3 := (HB.out.cell (blt_ hx108_3)).trans hx108_3
                   replace hx108_4 := (HB.out.cell (blt_ hx108_4)).trans hx108_4
                   replace hx108_5 := (HB.out.cell (blt_ hx108_5)).trans hx108_5
                   replace hx108_6 := (HB.out.cell (blt_ hx108_6)).trans hx108_6
                   replace hx108_7 := (HB.out.cell (blt_ hx108_7)).trans hx108_7
                   replace p108 := eq_true p108
                   replace q108 := eq_true q108
                   go_wp2_with (first | ((with_reducible refine gate_dst (N := 6) rfl ?_); (try (refine gate_guard (by rfl) ?_; dsimp only)); refine box_event ?hg (N := 6) ?hd (cs := #[.int .i64 0, .string (⟨#[]⟩ : ByteArray), .string (⟨#[]⟩ : ByteArray), .string (⟨#[]⟩ : ByteArray), .string (⟨#[]⟩ : ByteArray), .int .i64 0, .int .i64 0, .int .i64 0]) (t := 30) ?hr ?_; (case hd => rfl); (case hg => rfl); (case hr => first | (go_simp; done) | (go_simp; rfl)); intro gb109 hg w58 hbox hb; replace HR107_1 := am (Kd.C_below (by repeat (first | (with_reducible exact HR107_1.out) | (with_reducible refine Kd.C_alloc ?_ _) | (with_reducible refine Kd.C_drewN ?_ _) | (with_reducible refine Kd.C_drew ?_) | exact HR107_1.out)) hb); have BK109 := am (hbox); have GW109 := am ((by rw [hg]; exact (below_size (by repeat (first | (with_reducible first | exact HB.out | apply lA | apply lN | apply lD | refine lS ?_ GE101.out) | exact HB.out))) : w.heap.size ≤ gb109)); have GE109 := am ((by rw [hg]; exact (below_size (by repeat (first | (with_reducible first | exact HB.out | apply lA | apply lN | apply lD | refine lS ?_ GE101.out) | exact HB.out))) : w.heap.size ≤ gb109)); replace HB := am (below_step (by repeat (first | (with_reducible first | exact HB.out | apply lA | apply lN | apply lD | refine lS ?_ GE101.out) | exact HB.out)) hb); have NB101_109 := am ((by rw [hg]; exact Nat.ne_of_lt (blk_lt (g := gb101) (o := .cells #[.slice (some ad108) l0_0.length c0_0, .slice A0_1 l0_1.length c0_1, .slice A0_2 l0_2.length c0_2, .int .i64 a0_3] 43 (0, 0)) (by (with_reducible repeat (first | refine bN ?_ _ | refine bD ?_ | refine bA ?_ _)); exact BK101.out)) : gb101 ≠ gb109)); have NB109_101 := am ((by rw [hg]; exact Nat.ne_of_gt (blk_lt (g := gb101) (o := .cells #[.slice (some ad108) l0_0.length c0_0, .slice A0_1 l0_1.length c0_1, .slice A0_2 l0_2.length c0_2, .int .i64 a0_3] 43 (0, 0)) (by (with_reducible repeat (first | refine bN ?_ _ | refine bD ?_ | refine bA ?_ _)); exact BK101.out)) : gb109 ≠ gb101)); replace BK101 := am (blk_below (g := gb101) (o := .cells #[.slice (some ad108) l0_0.length c0_0, .slice A0_1 l0_1.length c0_1, .slice A0_2 l0_2.length c0_2, .int .i64 a0_3] 43 (0, 0)) (by (with_reducible repeat (first | refine bN ?_ _ | refine bD ?_ | refine bA ?_ _)); exact BK101.out) hb); clear hb hbox hg; have hnb59 := NB109_101.out; have hnc59 := NB101_109.out; have hcz60_0 : w58.cell? ⟨gb109, 0, none⟩ = some (.int .i64 0) := (blk_cell BK109.out 0).trans rfl; have hcz60_1 : w58.cell? ⟨gb109, 1, none⟩ = some (.string (⟨#[]⟩ : ByteArray)) := (blk_cell BK109.out 1).trans rfl; have hcz60_2 : w58.cell? ⟨gb109, 2, none⟩ = some (.string (⟨#[]⟩ : ByteArray)) := (blk_cell BK109.out 2).trans rfl; have hcz60_3 : w58.cell? ⟨gb109, 3, none⟩ = some (.string (⟨#[]⟩ : ByteArray)) := (blk_cell BK109.out 3).trans rfl; have hcz60_4 : w58.cell? ⟨gb109, 4, none⟩ = some (.string (⟨#[]⟩ : ByteArray)) := (blk_cell BK109.out 4).trans rfl; have hcz60_5 : w58.cell? ⟨gb109, 5, none⟩ = some (.int .i64 0) := (blk_cell BK109.out 5).trans rfl; have hcz60_6 : w58.cell? ⟨gb109, 6, none⟩ = some (.int .i64 0) := (blk_cell BK109.out 6).trans rfl; have hcz60_7 : w58.cell? ⟨gb109, 7, none⟩ = some (.int .i64 0) := (blk_cell BK109.out 7).trans rfl; have hfz60_0 := blk_frozen BK109.out 0; have hfz60_1 := blk_frozen BK109.out 1; have hfz60_2 := blk_frozen BK109.out 2; have hfz60_3 := blk_frozen BK109.out 3; have hfz60_4 := blk_frozen BK109.out 4; have hfz60_5 := blk_frozen BK109.out 5; have hfz60_6 := blk_frozen BK109.out 6; have hfz60_7 := blk_frozen BK109.out 7; have hcz61_0 : w58.cell? ⟨gb101, 0, none⟩ = some (.slice (some ad108) l0_0.length c0_0) := (blk_cell BK101.out 0).trans rfl; have hcz61_1 : w58.cell? ⟨gb101, 1, none⟩ = some (.slice A0_1 l0_1.length c0_1) := (blk_cell BK101.out 1).trans rfl; have hcz61_2 : w58.cell? ⟨gb101, 2, none⟩ = some (.slice A0_2 l0_2.length c0_2) := (blk_cell BK101.out 2).trans rfl; have hcz61_3 : w58.cell? ⟨gb101, 3, none⟩ = some (.int .i64 a0_3) := (blk_cell BK101.out 3).trans rfl; have hfz61_0 := blk_frozen BK101.out 0; have hfz61_1 := blk_frozen BK101.out 1; have hfz61_2 := blk_frozen BK101.out 2; have hfz61_3 := blk_frozen BK101.out 3))
                   go_ret
                   exact ⟨by first | rfl | (simp [errW_none, errW_some] <;> rfl) | (simp only [← hji27]; first | rfl | (simp [errW_none, errW_some] <;> rfl)) | (simp [*, errW_none, errW_some] <;> rfl), by repeat (first | (with_reducible first | exact HB.out | apply lA | apply lN | apply lD | refine lS ?_ GE101.out | refine lS ?_ GE109.out) | exact HB.out)⟩
                 ·rw [if_neg c50] at H
                  have c50b0 : decide ((l0_0.length : Int) ≤ ((rd_T30 l0_0 ((rd_T52 t104 (ji27)).place)).a)) = false := decide_eq_false c50
                  clear c50
                  by_cases c62 : ((rd_T30 l0_0 ((rd_T52 t104 (ji27)).place)).b) < 0
                  ·rw [if_pos c62] at H
                   have c62b0 : decide (((rd_T30 l0_0 ((rd_T52 t104 (ji27)).place)).b) < 0) = true := decide_eq_true c62
                   clear c62
                   by_cases c63 : t102 = true
                   ·subst c63
                    have H1 : (some true) = some r := by rw [if_pos rfl] at H; exact H
                    clear H
                    have H := H1
                    clear H1
                    obtain rfl := Option.some.inj H
                    have hcz64_0 : wc.cell? ⟨gb101, 0, none⟩ = some (.slice A0_0 l0_0.length c0_0) := (blk_cell BK101.out 0).trans rfl
                    have hcz64_1 : wc.cell? ⟨gb101, 1, none⟩ = some (.slice A0_1 l0_1.length c0_1) := (blk_cell BK101.out 1).trans rfl
                    have hcz64_2 : wc.cell? ⟨gb101, 2, none⟩ = some (.slice A0_2 l0_2.length c0_2) := (blk_cell BK101.out 2).trans rfl
                    have hcz64_3 : wc.cell? ⟨gb101, 3, none⟩ = some (.int .i64 a0_3) := (blk_cell BK101.out 3).trans rfl
                    have hfz64_0 := blk_frozen BK101.out 0
                    have hfz64_1 := blk_frozen BK101.out 1
                    have hfz64_2 := blk_frozen BK101.out 2
                    have hfz64_3 := blk_frozen BK101.out 3
                    have p108 : 0 ≤ (((rd_T52 t104 (ji27)).place) : Int) := of_decide_eq_true (by first | (with_reducible assumption) | assumption)
                    have q108 : ((rd_T52 t104 (ji27)).place) < (l0_0.length : Int) := of_decide_eq_true (by first | (with_reducible assumption) | assumption)
                    obtain ⟨ad108, e108, hx108_0, hx108_1, hx108_2, hx108_3, hx108_4, hx108_5, hx108_6, hx108_7⟩ := at_T30 HR0_0.out ((rd_T52 t104 (ji27)).place) p108 q108
                    cases e108
                    replace hx108_0 := (HB.out.cell (blt_ hx108_0)).trans hx108_0
                    replace hx108_1 := (HB.out.cell (blt_ hx108_1)).trans hx108_1
                    replace hx108_2 := (HB.out.cell (blt_ hx108_2)).trans hx108_2
                    replace hx108_3 := (HB.out.cell (blt_ hx108_3)).trans hx108_3
                    replace hx108_4 := (HB.out.cell (blt_ hx108_4)).trans hx108_4
                    replace hx108_5 := (HB.out.cell (blt_ hx108_5)).trans hx108_5
                    replace hx108_6 := (HB.out.cell (blt_ hx108_6)).trans hx108_6
                    replace hx108_7 := (HB.out.cell (blt_ hx108_7)).trans hx108_7
                    replace p108 := eq_true p108
                    replace q108 := eq_true q108
                    go_wp2_with (first | ((with_reducible refine gate_dst (N := 6) rfl ?_); (try (refine gate_guard (by rfl) ?_; dsimp only)); refine box_event ?hg (N := 6) ?hd (cs := #[.int .i64 0, .string (⟨#[]⟩ : ByteArray), .string (⟨#[]⟩ : ByteArray), .string (⟨#[]⟩ : ByteArray), .string (⟨#[]⟩ : ByteArray), .int .i64 0, .int .i64 0, .int .i64 0]) (t := 30) ?hr ?_; (case hd => rfl); (case hg => rfl); (case hr => first | (go_simp; done) | (go_simp; rfl)); intro gb109 hg w65 hbox hb; replace HR107_1 := am (Kd.C_below (by repeat (first | (with_reducible exact HR107_1.out) | (with_reducible refine Kd.C_alloc ?_ _) | (with_reducible refine Kd.C_drewN ?_ _) | (with_reducible refine Kd.C_drew ?_) | exact HR107_1.out)) hb); have BK109 := am (hbox); have GW109 := am ((by rw [hg]; exact (below_size (by repeat (first | (with_reducible first | exact HB.out | apply lA | apply lN | apply lD | refine lS ?_ GE101.out) | exact HB.out))) : w.heap.size ≤ gb109)); have GE109 := am ((by rw [hg]; exact (below_size (by repeat (first | (with_reducible first | exact HB.out | apply lA | apply lN | apply lD | refine lS ?_ GE101.out) | exact HB.out))) : w.heap.size ≤ gb109)); replace HB := am (below_step (by repeat (first | (with_reducible first | exact HB.out | apply lA | apply lN | apply lD | refine lS ?_ GE101.out) | exact HB.out)) hb); have NB101_109 := am ((by rw [hg]; exact Nat.ne_of_lt (blk_lt (g := gb101) (o := .cells #[.slice (some ad108) l0_0.length c0_0, .slice A0_1 l0_1.length c0_1, .slice A0_2 l0_2.length c0_2, .int .i64 a0_3] 43 (0, 0)) (by (with_reducible repeat (first | refine bN ?_ _ | refine bD ?_ | refine bA ?_ _)); exact BK101.out)) : gb101 ≠ gb109)); have NB109_101 := am ((by rw [hg]; exact Nat.ne_of_gt (blk_lt (g := gb101) (o := .cells #[.slice (some ad108) l0_0.length c0_0, .slice A0_1 l0_1.length c0_1, .slice A0_2 l0_2.length c0_2, .int .i64 a0_3] 43 (0, 0)) (by (with_reducible repeat (first | refine bN ?_ _ | refine bD ?_ | refine bA ?_ _)); exact BK101.out)) : gb109 ≠ gb101)); replace BK101 := am (blk_below (g := gb101) (o := .cells #[.slice (some ad108) l0_0.length c0_0, .slice A0_1 l0_1.length c0_1, .slice A0_2 l0_2.length c0_2, .int .i64 a0_3] 43 (0, 0)) (by (with_reducible repeat (first | refine bN ?_ _ | refine bD ?_ | refine bA ?_ _)); exact BK101.out) hb); clear hb hbox hg; have hnb66 := NB109_101.out; have hnc66 := NB101_109.out; have hcz67_0 : w65.cell? ⟨gb109, 0, none⟩ = some (.int .i64 0) := (blk_cell BK109.out 0).trans rfl; have hcz67_1 : w65.cell? ⟨gb109, 1, none⟩ = some (.string (⟨#[]⟩ : ByteArray)) := (blk_cell BK109.out 1).trans rfl; have hcz67_2 : w65.cell? ⟨gb109, 2, none⟩ = some (.string (⟨#[]⟩ : ByteArray)) := (blk_cell BK109.out 2).trans rfl; have hcz67_3 : w65.cell? ⟨gb109, 3, none⟩ = some (.string (⟨#[]⟩ : ByteArray)) := (blk_cell BK109.out 3).trans rfl; have hcz67_4 : w65.cell? ⟨gb109, 4, none⟩ = some (.string (⟨#[]⟩ : ByteArray)) := (blk_cell BK109.out 4).trans rfl; have hcz67_5 : w65.cell? ⟨gb109, 5, none⟩ = some (.int .i64 0) := (blk_cell BK109.out 5).trans rfl; have hcz67_6 : w65.cell? ⟨gb109, 6, none⟩ = some (.int .i64 0) := (blk_cell BK109.out 6).trans rfl; have hcz67_7 : w65.cell? ⟨gb109, 7, none⟩ = some (.int .i64 0) := (blk_cell BK109.out 7).trans rfl; have hfz67_0 := blk_frozen BK109.out 0; have hfz67_1 := blk_frozen BK109.out 1; have hfz67_2 := blk_frozen BK109.out 2; have hfz67_3 := blk_frozen BK109.out 3; have hfz67_4 := blk_frozen BK109.out 4; have hfz67_5 := blk_frozen BK109.out 5; have hfz67_6 := blk_frozen BK109.out 6; have hfz67_7 := blk_frozen BK109.out 7; have hcz68_0 : w65.cell? ⟨gb101, 0, none⟩ = some (.slice (some ad108) l0_0.length c0_0) := (blk_cell BK101.out 0).trans rfl; have hcz68_1 : w65.cell? ⟨gb101, 1, none⟩ = some (.slice A0_1 l0_1.length c0_1) := (blk_cell BK101.out 1).trans rfl; have hcz68_2 : w65.cell? ⟨gb101, 2, none⟩ = some (.slice A0_2 l0_2.length c0_2) := (blk_cell BK101.out 2).trans rfl; have hcz68_3 : w65.cell? ⟨gb101, 3, none⟩ = some (.int .i64 a0_3) := (blk_cell BK101.out 3).trans rfl; have hfz68_0 := blk_frozen BK101.out 0; have hfz68_1 := blk_frozen BK101.out 1; have hfz68_2 := blk_frozen BK101.out 2; have hfz68_3 := blk_frozen BK101.out 3))
                    go_ret
                    exact ⟨by first | rfl | (simp [errW_none, errW_some] <;> rfl) | (simp only [← hji27]; first | rfl | (simp [errW_none, errW_some] <;> rfl)) | (simp [*, errW_none, errW_some] <;> rfl), by repeat (first | (with_reducible first | exact HB.out | apply lA | apply lN | apply lD | refine lS ?_ GE101.out | refine lS ?_ GE109.out) | exact HB.out)⟩
                   ·replace c63 := Bool.eq_false_iff.mpr c63
                    subst c63
                    have H1 : (some false) = some r := by rw [if_neg (show ¬ (false = true) by decide)] at H; exact H
                    clear H
                    have H := H1
                    clear H1
                    obtain rfl := Option.some.inj H
                    have hcz69_0 : wc.cell? ⟨gb101, 0, none⟩ = some (.slice A0_0 l0_0.length c0_0) := (blk_cell BK101.out 0).trans rfl
                    have hcz69_1 : wc.cell? ⟨gb101, 1, none⟩ = some (.slice A0_1 l0_1.length c0_1) := (blk_cell BK101.out 1).trans rfl
                    have hcz69_2 : wc.cell? ⟨gb101, 2, none⟩ = some (.slice A0_2 l0_2.length c0_2) := (blk_cell BK101.out 2).trans rfl
                    have hcz69_3 : wc.cell? ⟨gb101, 3, none⟩ = some (.int .i64 a0_3) := (blk_cell BK101.out 3).trans rfl
                    have hfz69_0 := blk_frozen BK101.out 0
                    have hfz69_1 := blk_frozen BK101.out 1
                    have hfz69_2 := blk_frozen BK101.out 2
                    have hfz69_3 := blk_frozen BK101.out 3
                    have p108 : 0 ≤ (((rd_T52 t104 (ji27)).place) : Int) := of_decide_eq_true (by first | (with_reducible assumption) | assumption)
                    have q108 : ((rd_T52 t104 (ji27)).place) < (l0_0.length : Int) := of_decide_eq_true (by first | (with_reducible assumption) | assumption)
                    obtain ⟨ad108, e108, hx108_0, hx108_1, hx108_2, hx108_3, hx108_4, hx108_5, hx108_6, hx108_7⟩ := at_T30 HR0_0.out ((rd_T52 t104 (ji27)).place) p108 q108
                    cases e108
                    replace hx108_0 := (HB.out.cell (blt_ hx108_0)).trans hx108_0
                    replace hx108_1 := (HB.out.cell (blt_ hx108_1)).trans hx108_1
                    replace hx108_2 := (HB.out.cell (blt_ hx108_2)).trans hx108_2
                    replace hx108_3 := (HB.out.cell (blt_ hx108_3)).trans hx108_3
                    replace hx108_4 := (HB.out.cell (blt_ hx108_4)).trans hx108_4
                    replace hx108_5 := (HB.out.cell (blt_ hx108_5)).trans hx108_5
                    replace hx108_6 := (HB.out.cell (blt_ hx108_6)).trans hx108_6
                    replace hx108_7 := (HB.out.cell (blt_ hx108_7)).trans hx108_7
                    replace p108 := eq_true p108
                    replace q108 := eq_true q108
                    go_wp2_with (first | ((with_reducible refine gate_dst (N := 6) rfl ?_); (try (refine gate_guard (by rfl) ?_; dsimp only)); refine box_event ?hg (N := 6) ?hd (cs := #[.int .i64 0, .string (⟨#[]⟩ : ByteArray), .string (⟨#[]⟩ : ByteArray), .string (⟨#[]⟩ : ByteArray), .string (⟨#[]⟩ : ByteArray), .int .i64 0, .int .i64 0, .int .i64 0]) (t := 30) ?hr ?_; (case hd => rfl); (case hg => rfl); (case hr => first | (go_simp; done) | (go_simp; rfl)); intro gb109 hg w70 hbox hb; replace HR107_1 := am (Kd.C_below (by repeat (first | (with_reducible exact HR107_1.out) | (with_reducible refine Kd.C_alloc ?_ _) | (with_reducible refine Kd.C_drewN ?_ _) | (with_reducible refine Kd.C_drew ?_) | exact HR107_1.out)) hb); have BK109 := am (hbox); have GW109 := am ((by rw [hg]; exact (below_size (by repeat (first | (with_reducible first | exact HB.out | apply lA | apply lN | apply lD | refine lS ?_ GE101.out) | exact HB.out))) : w.heap.size ≤ gb109)); have GE109 := am ((by rw [hg]; exact (below_size (by repeat (first | (with_reducible first | exact HB.out | apply lA | apply lN | apply lD | refine lS ?_ GE101.out) | exact HB.out))) : w.heap.size ≤ gb109)); replace HB := am (below_step (by repeat (first | (with_reducible first | exact HB.out | apply lA | apply lN | apply lD | refine lS ?_ GE101.out) | exact HB.out)) hb); have NB101_109 := am ((by rw [hg]; exact Nat.ne_of_lt (blk_lt (g := gb101) (o := .cells #[.slice (some ad108) l0_0.length c0_0, .slice A0_1 l0_1.length c0_1, .slice A0_2 l0_2.length c0_2, .int .i64 a0_3] 43 (0, 0)) (by (with_reducible repeat (first | refine bN ?_ _ | refine bD ?_ | refine bA ?_ _)); exact BK101.out)) : gb101 ≠ gb109)); have NB109_101 := am ((by rw [hg]; exact Nat.ne_of_gt (blk_lt (g := gb101) (o := .cells #[.slice (some ad108) l0_0.length c0_0, .slice A0_1 l0_1.length c0_1, .slice A0_2 l0_2.length c0_2, .int .i64 a0_3] 43 (0, 0)) (by (with_reducible repeat (first | refine bN ?_ _ | refine bD ?_ | refine bA ?_ _)); exact BK101.out)) : gb109 ≠ gb101)); replace BK101 := am (blk_below (g := gb101) (o := .cells #[.slice (some ad108) l0_0.length c0_0, .slice A0_1 l0_1.length c0_1, .slice A0_2 l0_2.length c0_2, .int .i64 a0_3] 43 (0, 0)) (by (with_reducible repeat (first | refine bN ?_ _ | refine bD ?_ | refine bA ?_ _)); exact BK101.out) hb); clear hb hbox hg; have hnb71 := NB109_101.out; have hnc71 := NB101_109.out; have hcz72_0 : w70.cell? ⟨gb109, 0, none⟩ = some (.int .i64 0) := (blk_cell BK109.out 0).trans rfl; have hcz72_1 : w70.cell? ⟨gb109, 1, none⟩ = some (.string (⟨#[]⟩ : ByteArray)) := (blk_cell BK109.out 1).trans rfl; have hcz72_2 : w70.cell? ⟨gb109, 2, none⟩ = some (.string (⟨#[]⟩ : ByteArray)) := (blk_cell BK109.out 2).trans rfl; have hcz72_3 : w70.cell? ⟨gb109, 3, none⟩ = some (.string (⟨#[]⟩ : ByteArray)) := (blk_cell BK109.out 3).trans rfl; have hcz72_4 : w70.cell? ⟨gb109, 4, none⟩ = some (.string (⟨#[]⟩ : ByteArray)) := (blk_cell BK109.out 4).trans rfl; have hcz72_5 : w70.cell? ⟨gb109, 5, none⟩ = some (.int .i64 0) := (blk_cell BK109.out 5).trans rfl; have hcz72_6 : w70.cell? ⟨gb109, 6, none⟩ = some (.int .i64 0) := (blk_cell BK109.out 6).trans rfl; have hcz72_7 : w70.cell? ⟨gb109, 7, none⟩ = some (.int .i64 0) := (blk_cell BK109.out 7).trans rfl; have hfz72_0 := blk_frozen BK109.out 0; have hfz72_1 := blk_frozen BK109.out 1; have hfz72_2 := blk_frozen BK109.out 2; have hfz72_3 := blk_frozen BK109.out 3; have hfz72_4 := blk_frozen BK109.out 4; have hfz72_5 := blk_frozen BK109.out 5; have hfz72_6 := blk_frozen BK109.out 6; have hfz72_7 := blk_frozen BK109.out 7; have hcz73_0 : w70.cell? ⟨gb101, 0, none⟩ = some (.slice (some ad108) l0_0.length c0_0) := (blk_cell BK101.out 0).trans rfl; have hcz73_1 : w70.cell? ⟨gb101, 1, none⟩ = some (.slice A0_1 l0_1.length c0_1) := (blk_cell BK101.out 1).trans rfl; have hcz73_2 : w70.cell? ⟨gb101, 2, none⟩ = some (.slice A0_2 l0_2.length c0_2) := (blk_cell BK101.out 2).trans rfl; have hcz73_3 : w70.cell? ⟨gb101, 3, none⟩ = some (.int .i64 a0_3) := (blk_cell BK101.out 3).trans rfl; have hfz73_0 := blk_frozen BK101.out 0; have hfz73_1 := blk_frozen BK101.out 1; have hfz73_2 := blk_frozen BK101.out 2; have hfz73_3 := blk_frozen BK101.out 3))
                    go_ret
                    exact ⟨by first | rfl | (simp [errW_none, errW_some] <;> rfl) | (simp only [← hji27]; first | rfl | (simp [errW_none, errW_some] <;> rfl)) | (simp [*, errW_none, errW_some] <;> rfl), by repeat (first | (with_reducible first | exact HB.out | apply lA | apply lN | apply lD | refine lS ?_ GE101.out | refine lS ?_ GE109.out) | exact HB.out)⟩
                  ·rw [if_neg c62] at H
                   have c62b0 : decide (((rd_T30 l0_0 ((rd_T52 t104 (ji27)).place)).b) < 0) = false := decide_eq_false c62
                   clear c62
                   by_cases c74 : t102 = true
                   ·subst c74
                    have H1 : (if ((rd_T30 l0_0 ((rd_T52 t104 (ji27)).place)).b) ≥ (l0_0.length : Int) then (some true) else (some (((rd_T30 l0_0 ((rd_T52 t104 (ji27)).place)).kind) == 9))) = some r := by rw [if_pos rfl] at H; exact H
                    clear H
                    have H := H1
                    clear H1
                    by_cases c75 : ((rd_T30 l0_0 ((rd_T52 t104 (ji27)).place)).b) ≥ (l0_0.length : Int)
                    ·rw [if_pos c75] at H
                     have c75b0 : decide ((l0_0.length : Int) ≤ ((rd_T30 l0_0 ((rd_T52 t104 (ji27)).place)).b)) = true := decide_eq_true c75
                     clear c75
                     obtain rfl := Option.some.inj H
                     have hcz76_0 : wc.cell? ⟨gb101, 0, none⟩ = some (.slice A0_0 l0_0.length c0_0) := (blk_cell BK101.out 0).trans rfl
                     have hcz76_1 : wc.cell? ⟨gb101, 1, none⟩ = some (.slice A0_1 l0_1.length c0_1) := (blk_cell BK101.out 1).trans rfl
                     have hcz76_2 : wc.cell? ⟨gb101, 2, none⟩ = some (.slice A0_2 l0_2.length c0_2) := (blk_cell BK101.out 2).trans rfl
                     have hcz76_3 : wc.cell? ⟨gb101, 3, none⟩ = some (.int .i64 a0_3) := (blk_cell BK101.out 3).trans rfl
                     have hfz76_0 := blk_frozen BK101.out 0
                     have hfz76_1 := blk_frozen BK101.out 1
                     have hfz76_2 := blk_frozen BK101.out 2
                     have hfz76_3 := blk_frozen BK101.out 3
                     have p108 : 0 ≤ (((rd_T52 t104 (ji27)).place) : Int) := of_decide_eq_true (by first | (with_reducible assumption) | assumption)
                     have q108 : ((rd_T52 t104 (ji27)).place) < (l0_0.length : Int) := of_decide_eq_true (by first | (with_reducible assumption) | assumption)
                     obtain ⟨ad108, e108, hx108_0, hx108_1, hx108_2, hx108_3, hx108_4, hx108_5, hx108_6, hx108_7⟩ := at_T30 HR0_0.out ((rd_T52 t104 (ji27)).place) p108 q108
                     cases e108
                     replace hx108_0 := (HB.out.cell (blt_ hx108_0)).trans hx108_0
                     replace hx108_1 := (HB.out.cell (blt_ hx108_1)).trans hx108_1
                     replace hx108_2 := (HB.out.cell (blt_ hx108_2)).trans hx108_2
                     replace hx108_3 := (HB.out.cell (blt_ hx108_3)).trans hx108_3
                     replace hx108_4 := (HB.out.cell (blt_ hx108_4)).trans hx108_4
                     replace hx108_5 := (HB.out.cell (blt_ hx108_5)).trans hx108_5
                     replace hx108_6 := (HB.out.cell (blt_ hx108_6)).trans hx108_6
                     replace hx108_7 := (HB.out.cell (blt_ hx108_7)).trans hx108_7
                     replace p108 := eq_true p108
                     replace q108 := eq_true q108
                     go_wp2_with (first | ((with_reducible refine gate_dst (N := 6) rfl ?_); (try (refine gate_guard (by rfl) ?_; dsimp only)); refine box_event ?hg (N := 6) ?hd (cs := #[.int .i64 0, .string (⟨#[]⟩ : ByteArray), .string (⟨#[]⟩ : ByteArray), .string (⟨#[]⟩ : ByteArray), .string (⟨#[]⟩ : ByteArray), .int .i64 0, .int .i64 0, .int .i64 0]) (t := 30) ?hr ?_; (case hd => rfl); (case hg => rfl); (case hr => first | (go_simp; done) | (go_simp; rfl)); intro gb109 hg w77 hbox hb; replace HR107_1 := am (Kd.C_below (by repeat (first | (with_reducible exact HR107_1.out) | (with_reducible refine Kd.C_alloc ?_ _) | (with_reducible refine Kd.C_drewN ?_ _) | (with_reducible refine Kd.C_drew ?_) | exact HR107_1.out)) hb); have BK109 := am (hbox); have GW109 := am ((by rw [hg]; exact (below_size (by repeat (first | (with_reducible first | exact HB.out | apply lA | apply lN | apply lD | refine lS ?_ GE101.out) | exact HB.out))) : w.heap.size ≤ gb109)); have GE109 := am ((by rw [hg]; exact (below_size (by repeat (first | (with_reducible first | exact HB.out | apply lA | apply lN | apply lD | refine lS ?_ GE101.out) | exact HB.out))) : w.heap.size ≤ gb109)); replace HB := am (below_step (by repeat (first | (with_reducible first | exact HB.out | apply lA | apply lN | apply lD | refine lS ?_ GE101.out) | exact HB.out)) hb); have NB101_109 := am ((by rw [hg]; exact Nat.ne_of_lt (blk_lt (g := gb101) (o := .cells #[.slice (some ad108) l0_0.length c0_0, .slice A0_1 l0_1.length c0_1, .slice A0_2 l0_2.length c0_2, .int .i64 a0_3] 43 (0, 0)) (by (with_reducible repeat (first | refine bN ?_ _ | refine bD ?_ | refine bA ?_ _)); exact BK101.out)) : gb101 ≠ gb109)); have NB109_101 := am ((by rw [hg]; exact Nat.ne_of_gt (blk_lt (g := gb101) (o := .cells #[.slice (some ad108) l0_0.length c0_0, .slice A0_1 l0_1.length c0_1, .slice A0_2 l0_2.length c0_2, .int .i64 a0_3] 43 (0, 0)) (by (with_reducible repeat (first | refine bN ?_ _ | refine bD ?_ | refine bA ?_ _)); exact BK101.out)) : gb109 ≠ gb101)); replace BK101 := am (blk_below (g := gb101) (o := .cells #[.slice (some ad108) l0_0.length c0_0, .slice A0_1 l0_1.length c0_1, .slice A0_2 l0_2.length c0_2, .int .i64 a0_3] 43 (0, 0)) (by (with_reducible repeat (first | refine bN ?_ _ | refine bD ?_ | refine bA ?_ _)); exact BK101.out) hb); clear hb hbox hg; have hnb78 := NB109_101.out; have hnc78 := NB101_109.out; have hcz79_0 : w77.cell? ⟨gb109, 0, none⟩ = some (.int .i64 0) := (blk_cell BK109.out 0).trans rfl; have hcz79_1 : w77.cell? ⟨gb109, 1, none⟩ = some (.string (⟨#[]⟩ : ByteArray)) := (blk_cell BK109.out 1).trans rfl; have hcz79_2 : w77.cell? ⟨gb109, 2, none⟩ = some (.string (⟨#[]⟩ : ByteArray)) := (blk_cell BK109.out 2).trans rfl; have hcz79_3 : w77.cell? ⟨gb109, 3, none⟩ = some (.string (⟨#[]⟩ : ByteArray)) := (blk_cell BK109.out 3).trans rfl; have hcz79_4 : w77.cell? ⟨gb109, 4, none⟩ = some (.string (⟨#[]⟩ : ByteArray)) := (blk_cell BK109.out 4).trans rfl; have hcz79_5 : w77.cell? ⟨gb109, 5, none⟩ = some (.int .i64 0) := (blk_cell BK109.out 5).trans rfl; have hcz79_6 : w77.cell? ⟨gb109, 6, none⟩ = some (.int .i64 0) := (blk_cell BK109.out 6).trans rfl; have hcz79_7 : w77.cell? ⟨gb109, 7, none⟩ = some (.int .i64 0) := (blk_cell BK109.out 7).trans rfl; have hfz79_0 := blk_frozen BK109.out 0; have hfz79_1 := blk_frozen BK109.out 1; have hfz79_2 := blk_frozen BK109.out 2; have hfz79_3 := blk_frozen BK109.out 3; have hfz79_4 := blk_frozen BK109.out 4; have hfz79_5 := blk_frozen BK109.out 5; have hfz79_6 := blk_frozen BK109.out 6; have hfz79_7 := blk_frozen BK109.out 7; have hcz80_0 : w77.cell? ⟨gb101, 0, none⟩ = some (.slice (some ad108) l0_0.length c0_0) := (blk_cell BK101.out 0).trans rfl; have hcz80_1 : w77.cell? ⟨gb101, 1, none⟩ = some (.slice A0_1 l0_1.length c0_1) := (blk_cell BK101.out 1).trans rfl; have hcz80_2 : w77.cell? ⟨gb101, 2, none⟩ = some (.slice A0_2 l0_2.length c0_2) := (blk_cell BK101.out 2).trans rfl; have hcz80_3 : w77.cell? ⟨gb101, 3, none⟩ = some (.int .i64 a0_3) := (blk_cell BK101.out 3).trans rfl; have hfz80_0 := blk_frozen BK101.out 0; have hfz80_1 := blk_frozen BK101.out 1; have hfz80_2 := blk_frozen BK101.out 2; have hfz80_3 := blk_frozen BK101.out 3))
                     go_ret
                     exact ⟨by first | rfl | (simp [errW_none, errW_some] <;> rfl) | (simp only [← hji27]; first | rfl | (simp [errW_none, errW_some] <;> rfl)) | (simp [*, errW_none, errW_some] <;> rfl), by repeat (first | (with_reducible first | exact HB.out | apply lA | apply lN | apply lD | refine lS ?_ GE101.out | refine lS ?_ GE109.out) | exact HB.out)⟩
                    ·rw [if_neg c75] at H
                     have c75b0 : decide ((l0_0.length : Int) ≤ ((rd_T30 l0_0 ((rd_T52 t104 (ji27)).place)).b)) = false := decide_eq_false c75
                     clear c75
                     obtain rfl := Option.some.inj H
                     have hcz81_0 : wc.cell? ⟨gb101, 0, none⟩ = some (.slice A0_0 l0_0.length c0_0) := (blk_cell BK101.out 0).trans rfl
                     have hcz81_1 : wc.cell? ⟨gb101, 1, none⟩ = some (.slice A0_1 l0_1.length c0_1) := (blk_cell BK101.out 1).trans rfl
                     have hcz81_2 : wc.cell? ⟨gb101, 2, none⟩ = some (.slice A0_2 l0_2.length c0_2) := (blk_cell BK101.out 2).trans rfl
                     have hcz81_3 : wc.cell? ⟨gb101, 3, none⟩ = some (.int .i64 a0_3) := (blk_cell BK101.out 3).trans rfl
                     have hfz81_0 := blk_frozen BK101.out 0
                     have hfz81_1 := blk_frozen BK101.out 1
                     have hfz81_2 := blk_frozen BK101.out 2
                     have hfz81_3 := blk_frozen BK101.out 3
                     have p108 : 0 ≤ (((rd_T52 t104 (ji27)).place) : Int) := of_decide_eq_true (by first | (with_reducible assumption) | assumption)
                     have q108 : ((rd_T52 t104 (ji27)).place) < (l0_0.length : Int) := of_decide_eq_true (by first | (with_reducible assumption) | assumption)
                     obtain ⟨ad108, e108, hx108_0, hx108_1, hx108_2, hx108_3, hx108_4, hx108_5, hx108_6, hx108_7⟩ := at_T30 HR0_0.out ((rd_T52 t104 (ji27)).place) p108 q108
                     cases e108
                     replace hx108_0 := (HB.out.cell (blt_ hx108_0)).trans hx108_0
                     replace hx108_1 := (HB.out.cell (blt_ hx108_1)).trans hx108_1
                     replace hx108_2 := (HB.out.cell (blt_ hx108_2)).trans hx108_2
                     replace hx108_3 := (HB.out.cell (blt_ hx108_3)).trans hx108_3
                     replace hx108_4 := (HB.out.cell (blt_ hx108_4)).trans hx108_4
                     replace hx108_5 := (HB.out.cell (blt_ hx108_5)).trans hx108_5
                     replace hx108_6 := (HB.out.cell (blt_ hx108_6)).trans hx108_6
                     replace hx108_7 := (HB.out.cell (blt_ hx108_7)).trans hx108_7
                     replace p108 := eq_true p108
                     replace q108 := eq_true q108
                     go_wp2_with (first | ((with_reducible refine gate_dst (N := 6) rfl ?_); (try (refine gate_guard (by rfl) ?_; dsimp only)); refine box_event ?hg (N := 6) ?hd (cs := #[.int .i64 0, .string (⟨#[]⟩ : ByteArray), .string (⟨#[]⟩ : ByteArray), .string (⟨#[]⟩ : ByteArray), .string (⟨#[]⟩ : ByteArray), .int .i64 0, .int .i64 0, .int .i64 0]) (t := 30) ?hr ?_; (case hd => rfl); (case hg => rfl); (case hr => first | (go_simp; done) | (go_simp; rfl)); intro gb109 hg w82 hbox hb; replace HR107_1 := am (Kd.C_below (by repeat (first | (with_reducible exact HR107_1.out) | (with_reducible refine Kd.C_alloc ?_ _) | (with_reducible refine Kd.C_drewN ?_ _) | (with_reducible refine Kd.C_drew ?_) | exact HR107_1.out)) hb); have BK109 := am (hbox); have GW109 := am ((by rw [hg]; exact (below_size (by repeat (first | (with_reducible first | exact HB.out | apply lA | apply lN | apply lD | refine lS ?_ GE101.out) | exact HB.out))) : w.heap.size ≤ gb109)); have GE109 := am ((by rw [hg]; exact (below_size (by repeat (first | (with_reducible first | exact HB.out | apply lA | apply lN | apply lD | refine lS ?_ GE101.out) | exact HB.out))) : w.heap.size ≤ gb109)); replace HB := am (below_step (by repeat (first | (with_reducible first | exact HB.out | apply lA | apply lN | apply lD | refine lS ?_ GE101.out) | exact HB.out)) hb); have NB101_109 := am ((by rw [hg]; exact Nat.ne_of_lt (blk_lt (g := gb101) (o := .cells #[.slice (some ad108) l0_0.length c0_0, .slice A0_1 l0_1.length c0_1, .slice A0_2 l0_2.length c0_2, .int .i64 a0_3] 43 (0, 0)) (by (with_reducible repeat (first | refine bN ?_ _ | refine bD ?_ | refine bA ?_ _)); exact BK101.out)) : gb101 ≠ gb109)); have NB109_101 := am ((by rw [hg]; exact Nat.ne_of_gt (blk_lt (g := gb101) (o := .cells #[.slice (some ad108) l0_0.length c0_0, .slice A0_1 l0_1.length c0_1, .slice A0_2 l0_2.length c0_2, .int .i64 a0_3] 43 (0, 0)) (by (with_reducible repeat (first | refine bN ?_ _ | refine bD ?_ | refine bA ?_ _)); exact BK101.out)) : gb109 ≠ gb101)); replace BK101 := am (blk_below (g := gb101) (o := .cells #[.slice (some ad108) l0_0.length c0_0, .slice A0_1 l0_1.length c0_1, .slice A0_2 l0_2.length c0_2, .int .i64 a0_3] 43 (0, 0)) (by (with_reducible repeat (first | refine bN ?_ _ | refine bD ?_ | refine bA ?_ _)); exact BK101.out) hb); clear hb hbox hg; have hnb83 := NB109_101.out; have hnc83 := NB101_109.out; have hcz84_0 : w82.cell? ⟨gb109, 0, none⟩ = some (.int .i64 0) := (blk_cell BK109.out 0).trans rfl; have hcz84_1 : w82.cell? ⟨gb109, 1, none⟩ = some (.string (⟨#[]⟩ : ByteArray)) := (blk_cell BK109.out 1).trans rfl; have hcz84_2 : w82.cell? ⟨gb109, 2, none⟩ = some (.string (⟨#[]⟩ : ByteArray)) := (blk_cell BK109.out 2).trans rfl; have hcz84_3 : w82.cell? ⟨gb109, 3, none⟩ = some (.string (⟨#[]⟩ : ByteArray)) := (blk_cell BK109.out 3).trans rfl; have hcz84_4 : w82.cell? ⟨gb109, 4, none⟩ = some (.string (⟨#[]⟩ : ByteArray)) := (blk_cell BK109.out 4).trans rfl; have hcz84_5 : w82.cell? ⟨gb109, 5, none⟩ = some (.int .i64 0) := (blk_cell BK109.out 5).trans rfl; have hcz84_6 : w82.cell? ⟨gb109, 6, none⟩ = some (.int .i64 0) := (blk_cell BK109.out 6).trans rfl; have hcz84_7 : w82.cell? ⟨gb109, 7, none⟩ = some (.int .i64 0) := (blk_cell BK109.out 7).trans rfl; have hfz84_0 := blk_frozen BK109.out 0; have hfz84_1 := blk_frozen BK109.out 1; have hfz84_2 := blk_frozen BK109.out 2; have hfz84_3 := blk_frozen BK109.out 3; have hfz84_4 := blk_frozen BK109.out 4; have hfz84_5 := blk_frozen BK109.out 5; have hfz84_6 := blk_frozen BK109.out 6; have hfz84_7 := blk_frozen BK109.out 7; have hcz85_0 : w82.cell? ⟨gb101, 0, none⟩ = some (.slice (some ad108) l0_0.length c0_0) := (blk_cell BK101.out 0).trans rfl; have hcz85_1 : w82.cell? ⟨gb101, 1, none⟩ = some (.slice A0_1 l0_1.length c0_1) := (blk_cell BK101.out 1).trans rfl; have hcz85_2 : w82.cell? ⟨gb101, 2, none⟩ = some (.slice A0_2 l0_2.length c0_2) := (blk_cell BK101.out 2).trans rfl; have hcz85_3 : w82.cell? ⟨gb101, 3, none⟩ = some (.int .i64 a0_3) := (blk_cell BK101.out 3).trans rfl; have hfz85_0 := blk_frozen BK101.out 0; have hfz85_1 := blk_frozen BK101.out 1; have hfz85_2 := blk_frozen BK101.out 2; have hfz85_3 := blk_frozen BK101.out 3))
                     go_ret
                     exact ⟨by first | rfl | (simp [errW_none, errW_some] <;> rfl) | (simp only [← hji27]; first | rfl | (simp [errW_none, errW_some] <;> rfl)) | (simp [*, errW_none, errW_some] <;> rfl), by repeat (first | (with_reducible first | exact HB.out | apply lA | apply lN | apply lD | refine lS ?_ GE101.out | refine lS ?_ GE109.out) | exact HB.out)⟩
                   ·replace c74 := Bool.eq_false_iff.mpr c74
                    subst c74
                    have H1 : (some false) = some r := by rw [if_neg (show ¬ (false = true) by decide)] at H; exact H
                    clear H
                    have H := H1
                    clear H1
                    obtain rfl := Option.some.inj H
                    have hcz86_0 : wc.cell? ⟨gb101, 0, none⟩ = some (.slice A0_0 l0_0.length c0_0) := (blk_cell BK101.out 0).trans rfl
                    have hcz86_1 : wc.cell? ⟨gb101, 1, none⟩ = some (.slice A0_1 l0_1.length c0_1) := (blk_cell BK101.out 1).trans rfl
                    have hcz86_2 : wc.cell? ⟨gb101, 2, none⟩ = some (.slice A0_2 l0_2.length c0_2) := (blk_cell BK101.out 2).trans rfl
                    have hcz86_3 : wc.cell? ⟨gb101, 3, none⟩ = some (.int .i64 a0_3) := (blk_cell BK101.out 3).trans rfl
                    have hfz86_0 := blk_frozen BK101.out 0
                    have hfz86_1 := blk_frozen BK101.out 1
                    have hfz86_2 := blk_frozen BK101.out 2
                    have hfz86_3 := blk_frozen BK101.out 3
                    have p108 : 0 ≤ (((rd_T52 t104 (ji27)).place) : Int) := of_decide_eq_true (by first | (with_reducible assumption) | assumption)
                    have q108 : ((rd_T52 t104 (ji27)).place) < (l0_0.length : Int) := of_decide_eq_true (by first | (with_reducible assumption) | assumption)
                    obtain ⟨ad108, e108, hx108_0, hx108_1, hx108_2, hx108_3, hx108_4, hx108_5, hx108_6, hx108_7⟩ := at_T30 HR0_0.out ((rd_T52 t104 (ji27)).place) p108 q108
                    cases e108
                    replace hx108_0 := (HB.out.cell (blt_ hx108_0)).trans hx108_0
                    replace hx108_1 := (HB.out.cell (blt_ hx108_1)).trans hx108_1
                    replace hx108_2 := (HB.out.cell (blt_ hx108_2)).trans hx108_2
                    replace hx108_3 := (HB.out.cell (blt_ hx108_3)).trans hx108_3
                    replace hx108_4 := (HB.out.cell (blt_ hx108_4)).trans hx108_4
                    replace hx108_5 := (HB.out.cell (blt_ hx108_5)).trans hx108_5
                    replace hx108_6 := (HB.out.cell (blt_ hx108_6)).trans hx108_6
                    replace hx108_7 := (HB.out.cell (blt_ hx108_7)).trans hx108_7
                    replace p108 := eq_true p108
                    replace q108 := eq_true q108
                    go_wp2_with (first | ((with_reducible refine gate_dst (N := 6) rfl ?_); (try (refine gate_guard (by rfl) ?_; dsimp only)); refine box_event ?hg (N := 6) ?hd (cs := #[.int .i64 0, .string (⟨#[]⟩ : ByteArray), .string (⟨#[]⟩ : ByteArray), .string (⟨#[]⟩ : ByteArray), .string (⟨#[]⟩ : ByteArray), .int .i64 0, .int .i64 0, .int .i64 0]) (t := 30) ?hr ?_; (case hd => rfl); (case hg => rfl); (case hr => first | (go_simp; done) | (go_simp; rfl)); intro gb109 hg w87 hbox hb; replace HR107_1 := am (Kd.C_below (by repeat (first | (with_reducible exact HR107_1.out) | (with_reducible refine Kd.C_alloc ?_ _) | (with_reducible refine Kd.C_drewN ?_ _) | (with_reducible refine Kd.C_drew ?_) | exact HR107_1.out)) hb); have BK109 := am (hbox); have GW109 := am ((by rw [hg]; exact (below_size (by repeat (first | (with_reducible first | exact HB.out | apply lA | apply lN | apply lD | refine lS ?_ GE101.out) | exact HB.out))) : w.heap.size ≤ gb109)); have GE109 := am ((by rw [hg]; exact (below_size (by repeat (first | (with_reducible first | exact HB.out | apply lA | apply lN | apply lD | refine lS ?_ GE101.out) | exact HB.out))) : w.heap.size ≤ gb109)); replace HB := am (below_step (by repeat (first | (with_reducible first | exact HB.out | apply lA | apply lN | apply lD | refine lS ?_ GE101.out) | exact HB.out)) hb); have NB101_109 := am ((by rw [hg]; exact Nat.ne_of_lt (blk_lt (g := gb101) (o := .cells #[.slice (some ad108) l0_0.length c0_0, .slice A0_1 l0_1.length c0_1, .slice A0_2 l0_2.length c0_2, .int .i64 a0_3] 43 (0, 0)) (by (with_reducible repeat (first | refine bN ?_ _ | refine bD ?_ | refine bA ?_ _)); exact BK101.out)) : gb101 ≠ gb109)); have NB109_101 := am ((by rw [hg]; exact Nat.ne_of_gt (blk_lt (g := gb101) (o := .cells #[.slice (some ad108) l0_0.length c0_0, .slice A0_1 l0_1.length c0_1, .slice A0_2 l0_2.length c0_2, .int .i64 a0_3] 43 (0, 0)) (by (with_reducible repeat (first | refine bN ?_ _ | refine bD ?_ | refine bA ?_ _)); exact BK101.out)) : gb109 ≠ gb101)); replace BK101 := am (blk_below (g := gb101) (o := .cells #[.slice (some ad108) l0_0.length c0_0, .slice A0_1 l0_1.length c0_1, .slice A0_2 l0_2.length c0_2, .int .i64 a0_3] 43 (0, 0)) (by (with_reducible repeat (first | refine bN ?_ _ | refine bD ?_ | refine bA ?_ _)); exact BK101.out) hb); clear hb hbox hg; have hnb88 := NB109_101.out; have hnc88 := NB101_109.out; have hcz89_0 : w87.cell? ⟨gb109, 0, none⟩ = some (.int .i64 0) := (blk_cell BK109.out 0).trans rfl; have hcz89_1 : w87.cell? ⟨gb109, 1, none⟩ = some (.string (⟨#[]⟩ : ByteArray)) := (blk_cell BK109.out 1).trans rfl; have hcz89_2 : w87.cell? ⟨gb109, 2, none⟩ = some (.string (⟨#[]⟩ : ByteArray)) := (blk_cell BK109.out 2).trans rfl; have hcz89_3 : w87.cell? ⟨gb109, 3, none⟩ = some (.string (⟨#[]⟩ : ByteArray)) := (blk_cell BK109.out 3).trans rfl; have hcz89_4 : w87.cell? ⟨gb109, 4, none⟩ = some (.string (⟨#[]⟩ : ByteArray)) := (blk_cell BK109.out 4).trans rfl; have hcz89_5 : w87.cell? ⟨gb109, 5, none⟩ = some (.int .i64 0) := (blk_cell BK109.out 5).trans rfl; have hcz89_6 : w87.cell? ⟨gb109, 6, none⟩ = some (.int .i64 0) := (blk_cell BK109.out 6).trans rfl; have hcz89_7 : w87.cell? ⟨gb109, 7, none⟩ = some (.int .i64 0) := (blk_cell BK109.out 7).trans rfl; have hfz89_0 := blk_frozen BK109.out 0; have hfz89_1 := blk_frozen BK109.out 1; have hfz89_2 := blk_frozen BK109.out 2; have hfz89_3 := blk_frozen BK109.out 3; have hfz89_4 := blk_frozen BK109.out 4; have hfz89_5 := blk_frozen BK109.out 5; have hfz89_6 := blk_frozen BK109.out 6; have hfz89_7 := blk_frozen BK109.out 7; have hcz90_0 : w87.cell? ⟨gb101, 0, none⟩ = some (.slice (some ad108) l0_0.length c0_0) := (blk_cell BK101.out 0).trans rfl; have hcz90_1 : w87.cell? ⟨gb101, 1, none⟩ = some (.slice A0_1 l0_1.length c0_1) := (blk_cell BK101.out 1).trans rfl; have hcz90_2 : w87.cell? ⟨gb101, 2, none⟩ = some (.slice A0_2 l0_2.length c0_2) := (blk_cell BK101.out 2).trans rfl; have hcz90_3 : w87.cell? ⟨gb101, 3, none⟩ = some (.int .i64 a0_3) := (blk_cell BK101.out 3).trans rfl; have hfz90_0 := blk_frozen BK101.out 0; have hfz90_1 := blk_frozen BK101.out 1; have hfz90_2 := blk_frozen BK101.out 2; have hfz90_3 := blk_frozen BK101.out 3))
                    go_ret
                    exact ⟨by first | rfl | (simp [errW_none, errW_some] <;> rfl) | (simp only [← hji27]; first | rfl | (simp [errW_none, errW_some] <;> rfl)) | (simp [*, errW_none, errW_some] <;> rfl), by repeat (first | (with_reducible first | exact HB.out | apply lA | apply lN | apply lD | refine lS ?_ GE101.out | refine lS ?_ GE109.out) | exact HB.out)⟩
               ·rw [if_neg c37] at H
                have c37b0 : (((rd_T30 l0_0 ((rd_T52 t104 (ji27)).place)).kind) == 7) = false := beq_eq_false_iff_ne.mpr c37
                have c37b1 : (((rd_T30 l0_0 ((rd_T52 t104 (ji27)).place)).kind) != 7) = true := bne_iff_ne.mpr c37
                by_cases c91 : ((rd_T30 l0_0 ((rd_T52 t104 (ji27)).place)).kind) = 8
                ·rw [if_pos c91] at H
                 have c91b0 : (((rd_T30 l0_0 ((rd_T52 t104 (ji27)).place)).kind) == 8) = true := beq_iff_eq.mpr c91
                 have c91b1 : (((rd_T30 l0_0 ((rd_T52 t104 (ji27)).place)).kind) != 8) = false := bne_eq_false_iff_eq.mpr c91
                 clear c91
                 by_cases c92 : ((rd_T30 l0_0 ((rd_T52 t104 (ji27)).place)).a) < 0
                 ·rw [if_pos c92] at H
                  have c92b0 : decide (((rd_T30 l0_0 ((rd_T52 t104 (ji27)).place)).a) < 0) = true := decide_eq_true c92
                  clear c92
                  by_cases c93 : t102 = true
                  ·subst c93
                   have H1 : (some true) = some r := by rw [if_pos rfl] at H; exact H
                   clear H
                   have H := H1
                   clear H1
                   obtain rfl := Option.some.inj H
                   have hcz94_0 : wc.cell? ⟨gb101, 0, none⟩ = some (.slice A0_0 l0_0.length c0_0) := (blk_cell BK101.out 0).trans rfl
                   have hcz94_1 : wc.cell? ⟨gb101, 1, none⟩ = some (.slice A0_1 l0_1.length c0_1) := (blk_cell BK101.out 1).trans rfl
                   have hcz94_2 : wc.cell? ⟨gb101, 2, none⟩ = some (.slice A0_2 l0_2.length c0_2) := (blk_cell BK101.out 2).trans rfl
                   have hcz94_3 : wc.cell? ⟨gb101, 3, none⟩ = some (.int .i64 a0_3) := (blk_cell BK101.out 3).trans rfl
                   have hfz94_0 := blk_frozen BK101.out 0
                   have hfz94_1 := blk_frozen BK101.out 1
                   have hfz94_2 := blk_frozen BK101.out 2
                   have hfz94_3 := blk_frozen BK101.out 3
                   have p108 : 0 ≤ (((rd_T52 t104 (ji27)).place) : Int) := of_decide_eq_true (by first | (with_reducible assumption) | assumption)
                   have q108 : ((rd_T52 t104 (ji27)).place) < (l0_0.length : Int) := of_decide_eq_true (by first | (with_reducible assumption) | assumption)
                   obtain ⟨ad108, e108, hx108_0, hx108_1, hx108_2, hx108_3, hx108_4, hx108_5, hx108_6, hx108_7⟩ := at_T30 HR0_0.out ((rd_T52 t104 (ji27)).place) p108 q108
                   cases e108
                   replace hx108_0 := (HB.out.cell (blt_ hx108_0)).trans hx108_0
                   replace hx108_1 := (HB.out.cell (blt_ hx108_1)).trans hx108_1
                   replace hx108_2 := (HB.out.cell (blt_ hx108_2)).trans hx108_2
                   replace hx108_3 := (HB.out.cell (blt_ hx108_3)).trans hx108_3
                   replace hx108_4 := (HB.out.cell (blt_ hx108_4)).trans hx108_4
                   replace hx108_5 := (HB.out.cell (blt_ hx108_5)).trans hx108_5
                   replace hx108_6 := (HB.out.cell (blt_ hx108_6)).trans hx108_6
                   replace hx108_7 := (HB.out.cell (blt_ hx108_7)).trans hx108_7
                   replace p108 := eq_true p108
                   replace q108 := eq_true q108
                   go_wp2_with (first | ((with_reducible refine gate_dst (N := 6) rfl ?_); (try (refine gate_guard (by rfl) ?_; dsimp only)); refine box_event ?hg (N := 6) ?hd (cs := #[.int .i64 0, .string (⟨#[]⟩ : ByteArray), .string (⟨#[]⟩ : ByteArray), .string (⟨#[]⟩ : ByteArray), .string (⟨#[]⟩ : ByteArray), .int .i64 0, .int .i64 0, .int .i64 0]) (t := 30) ?hr ?_; (case hd => rfl); (case hg => rfl); (case hr => first | (go_simp; done) | (go_simp; rfl)); intro gb109 hg w95 hbox hb; replace HR107_1 := am (Kd.C_below (by repeat (first | (with_reducible exact HR107_1.out) | (with_reducible refine Kd.C_alloc ?_ _) | (with_reducible refine Kd.C_drewN ?_ _) | (with_reducible refine Kd.C_drew ?_) | exact HR107_1.out)) hb); have BK109 := am (hbox); have GW109 := am ((by rw [hg]; exact (below_size (by repeat (first | (with_reducible first | exact HB.out | apply lA | apply lN | apply lD | refine lS ?_ GE101.out) | exact HB.out))) : w.heap.size ≤ gb109)); have GE109 := am ((by rw [hg]; exact (below_size (by repeat (first | (with_reducible first | exact HB.out | apply lA | apply lN | apply lD | refine lS ?_ GE101.out) | exact HB.out))) : w.heap.size ≤ gb109)); replace HB := am (below_step (by repeat (first | (with_reducible first | exact HB.out | apply lA | apply lN | apply lD | refine lS ?_ GE101.out) | exact HB.out)) hb); have NB101_109 := am ((by rw [hg]; exact Nat.ne_of_lt (blk_lt (g := gb101) (o := .cells #[.slice (some ad108) l0_0.length c0_0, .slice A0_1 l0_1.length c0_1, .slice A0_2 l0_2.length c0_2, .int .i64 a0_3] 43 (0, 0)) (by (with_reducible repeat (first | refine bN ?_ _ | refine bD ?_ | refine bA ?_ _)); exact BK101.out)) : gb101 ≠ gb109)); have NB109_101 := am ((by rw [hg]; exact Nat.ne_of_gt (blk_lt (g := gb101) (o := .cells #[.slice (some ad108) l0_0.length c0_0, .slice A0_1 l0_1.length c0_1, .slice A0_2 l0_2.length c0_2, .int .i64 a0_3] 43 (0, 0)) (by (with_reducible repeat (first | refine bN ?_ _ | refine bD ?_ | refine bA ?_ _)); exact BK101.out)) : gb109 ≠ gb101)); replace BK101 := am (blk_below (g := gb101) (o := .cells #[.slice (some ad108) l0_0.length c0_0, .slice A0_1 l0_1.length c0_1, .slice A0_2 l0_2.length c0_2, .int .i64 a0_3] 43 (0, 0)) (by (with_reducible repeat (first | refine bN ?_ _ | refine bD ?_ | refine bA ?_ _)); exact BK101.out) hb); clear hb hbox hg; have hnb96 := NB109_101.out; have hnc96 := NB101_109.out; have hcz97_0 : w95.cell? ⟨gb109, 0, none⟩ = some (.int .i64 0) := (blk_cell BK109.out 0).trans rfl; have hcz97_1 : w95.cell? ⟨gb109, 1, none⟩ = some (.string (⟨#[]⟩ : ByteArray)) := (blk_cell BK109.out 1).trans rfl; have hcz97_2 : w95.cell? ⟨gb109, 2, none⟩ = some (.string (⟨#[]⟩ : ByteArray)) := (blk_cell BK109.out 2).trans rfl; have hcz97_3 : w95.cell? ⟨gb109, 3, none⟩ = some (.string (⟨#[]⟩ : ByteArray)) := (blk_cell BK109.out 3).trans rfl; have hcz97_4 : w95.cell? ⟨gb109, 4, none⟩ = some (.string (⟨#[]⟩ : ByteArray)) := (blk_cell BK109.out 4).trans rfl; have hcz97_5 : w95.cell? ⟨gb109, 5, none⟩ = some (.int .i64 0) := (blk_cell BK109.out 5).trans rfl; have hcz97_6 : w95.cell? ⟨gb109, 6, none⟩ = some (.int .i64 0) := (blk_cell BK109.out 6).trans rfl; have hcz97_7 : w95.cell? ⟨gb109, 7, none⟩ = some (.int .i64 0) := (blk_cell BK109.out 7).trans rfl; have hfz97_0 := blk_frozen BK109.out 0; have hfz97_1 := blk_frozen BK109.out 1; have hfz97_2 := blk_frozen BK109.out 2; have hfz97_3 := blk_frozen BK109.out 3; have hfz97_4 := blk_frozen BK109.out 4; have hfz97_5 := blk_frozen BK109.out 5; have hfz97_6 := blk_frozen BK109.out 6; have hfz97_7 := blk_frozen BK109.out 7; have hcz98_0 : w95.cell? ⟨gb101, 0, none⟩ = some (.slice (some ad108) l0_0.length c0_0) := (blk_cell BK101.out 0).trans rfl; have hcz98_1 : w95.cell? ⟨gb101, 1, none⟩ = some (.slice A0_1 l0_1.length c0_1) := (blk_cell BK101.out 1).trans rfl; have hcz98_2 : w95.cell? ⟨gb101, 2, none⟩ = some (.slice A0_2 l0_2.length c0_2) := (blk_cell BK101.out 2).trans rfl; have hcz98_3 : w95.cell? ⟨gb101, 3, none⟩ = some (.int .i64 a0_3) := (blk_cell BK101.out 3).trans rfl; have hfz98_0 := blk_frozen BK101.out 0; have hfz98_1 := blk_frozen BK101.out 1; have hfz98_2 := blk_frozen BK101.out 2; have hfz98_3 := blk_frozen BK101.out 3))
                   go_ret
                   exact ⟨by first | rfl | (simp [errW_none, errW_some] <;> rfl) | (simp only [← hji27]; first | rfl | (simp [errW_none, errW_some] <;> rfl)) | (simp [*, errW_none, errW_some] <;> rfl), by repeat (first | (with_reducible first | exact HB.out | apply lA | apply lN | apply lD | refine lS ?_ GE101.out | refine lS ?_ GE109.out) | exact HB.out)⟩
                  ·replace c93 := Bool.eq_false_iff.mpr c93
                   subst c93
                   have H1 : (some false) = some r := by rw [if_neg (show ¬ (false = true) by decide)] at H; exact H
                   clear H
                   have H := H1
                   clear H1
                   obtain rfl := Option.some.inj H
                   have hcz99_0 : wc.cell? ⟨gb101, 0, none⟩ = some (.slice A0_0 l0_0.length c0_0) := (blk_cell BK101.out 0).trans rfl
                   have hcz99_1 : wc.cell? ⟨gb101, 1, none⟩ = some (.slice A0_1 l0_1.length c0_1) := (blk_cell BK101.out 1).trans rfl
                   have hcz99_2 : wc.cell? ⟨gb101, 2, none⟩ = some (.slice A0_2 l0_2.length c0_2) := (blk_cell BK101.out 2).trans rfl
                   have hcz99_3 : wc.cell? ⟨gb101, 3, none⟩ = some (.int .i64 a0_3) := (blk_cell BK101.out 3).trans rfl
                   have hfz99_0 := blk_frozen BK101.out 0
                   have hfz99_1 := blk_frozen BK101.out 1
                   have hfz99_2 := blk_frozen BK101.out 2
                   have hfz99_3 := blk_frozen BK101.out 3
                   have p108 : 0 ≤ (((rd_T52 t104 (ji27)).place) : Int) := of_decide_eq_true (by first | (with_reducible assumption) | assumption)
                   have q108 : ((rd_T52 t104 (ji27)).place) < (l0_0.length : Int) := of_decide_eq_true (by first | (with_reducible assumption) | assumption)
                   obtain ⟨ad108, e108, hx108_0, hx108_1, hx108_2, hx108_3, hx108_4, hx108_5, hx108_6, hx108_7⟩ := at_T30 HR0_0.out ((rd_T52 t104 (ji27)).place) p108 q108
                   cases e108
                   replace hx108_0 := (HB.out.cell (blt_ hx108_0)).trans hx108_0
                   replace hx108_1 := (HB.out.cell (blt_ hx108_1)).trans hx108_1
                   replace hx108_2 := (HB.out.cell (blt_ hx108_2)).trans hx108_2
                   replace hx108_3 := (HB.out.cell (blt_ hx108_3)).trans hx108_3
                   replace hx108_4 := (HB.out.cell (blt_ hx108_4)).trans hx108_4
                   replace hx108_5 := (HB.out.cell (blt_ hx108_5)).trans hx108_5
                   replace hx108_6 := (HB.out.cell (blt_ hx108_6)).trans hx108_6
                   replace hx108_7 := (HB.out.cell (blt_ hx108_7)).trans hx108_7
                   replace p108 := eq_true p108
                   replace q108 := eq_true q108
                   go_wp2_with (first | ((with_reducible refine gate_dst (N := 6) rfl ?_); (try (refine gate_guard (by rfl) ?_; dsimp only)); refine box_event ?hg (N := 6) ?hd (cs := #[.int .i64 0, .string (⟨#[]⟩ : ByteArray), .string (⟨#[]⟩ : ByteArray), .string (⟨#[]⟩ : ByteArray), .string (⟨#[]⟩ : ByteArray), .int .i64 0, .int .i64 0, .int .i64 0]) (t := 30) ?hr ?_; (case hd => rfl); (case hg => rfl); (case hr => first | (go_simp; done) | (go_simp; rfl)); intro gb109 hg w100 hbox hb; replace HR107_1 := am (Kd.C_below (by repeat (first | (with_reducible exact HR107_1.out) | (with_reducible refine Kd.C_alloc ?_ _) | (with_reducible refine Kd.C_drewN ?_ _) | (with_reducible refine Kd.C_drew ?_) | exact HR107_1.out)) hb); have BK109 := am (hbox); have GW109 := am ((by rw [hg]; exact (below_size (by repeat (first | (with_reducible first | exact HB.out | apply lA | apply lN | apply lD | refine lS ?_ GE101.out) | exact HB.out))) : w.heap.size ≤ gb109)); have GE109 := am ((by rw [hg]; exact (below_size (by repeat (first | (with_reducible first | exact HB.out | apply lA | apply lN | apply lD | refine lS ?_ GE101.out) | exact HB.out))) : w.heap.size ≤ gb109)); replace HB := am (below_step (by repeat (first | (with_reducible first | exact HB.out | apply lA | apply lN | apply lD | refine lS ?_ GE101.out) | exact HB.out)) hb); have NB101_109 := am ((by rw [hg]; exact Nat.ne_of_lt (blk_lt (g := gb101) (o := .cells #[.slice (some ad108) l0_0.length c0_0, .slice A0_1 l0_1.length c0_1, .slice A0_2 l0_2.length c0_2, .int .i64 a0_3] 43 (0, 0)) (by (with_reducible repeat (first | refine bN ?_ _ | refine bD ?_ | refine bA ?_ _)); exact BK101.out)) : gb101 ≠ gb109)); have NB109_101 := am ((by rw [hg]; exact Nat.ne_of_gt (blk_lt (g := gb101) (o := .cells #[.slice (some ad108) l0_0.length c0_0, .slice A0_1 l0_1.length c0_1, .slice A0_2 l0_2.length c0_2, .int .i64 a0_3] 43 (0, 0)) (by (with_reducible repeat (first | refine bN ?_ _ | refine bD ?_ | refine bA ?_ _)); exact BK101.out)) : gb109 ≠ gb101)); replace BK101 := am (blk_below (g := gb101) (o := .cells #[.slice (some ad108) l0_0.length c0_0, .slice A0_1 l0_1.length c0_1, .slice A0_2 l0_2.length c0_2, .int .i64 a0_3] 43 (0, 0)) (by (with_reducible repeat (first | refine bN ?_ _ | refine bD ?_ | refine bA ?_ _)); exact BK101.out) hb); clear hb hbox hg; have hnb101 := NB109_101.out; have hnc101 := NB101_109.out; have hcz102_0 : w100.cell? ⟨gb109, 0, none⟩ = some (.int .i64 0) := (blk_cell BK109.out 0).trans rfl; have hcz102_1 : w100.cell? ⟨gb109, 1, none⟩ = some (.string (⟨#[]⟩ : ByteArray)) := (blk_cell BK109.out 1).trans rfl; have hcz102_2 : w100.cell? ⟨gb109, 2, none⟩ = some (.string (⟨#[]⟩ : ByteArray)) := (blk_cell BK109.out 2).trans rfl; have hcz102_3 : w100.cell? ⟨gb109, 3, none⟩ = some (.string (⟨#[]⟩ : ByteArray)) := (blk_cell BK109.out 3).trans rfl; have hcz102_4 : w100.cell? ⟨gb109, 4, none⟩ = some (.string (⟨#[]⟩ : ByteArray)) := (blk_cell BK109.out 4).trans rfl; have hcz102_5 : w100.cell? ⟨gb109, 5, none⟩ = some (.int .i64 0) := (blk_cell BK109.out 5).trans rfl; have hcz102_6 : w100.cell? ⟨gb109, 6, none⟩ = some (.int .i64 0) := (blk_cell BK109.out 6).trans rfl; have hcz102_7 : w100.cell? ⟨gb109, 7, none⟩ = some (.int .i64 0) := (blk_cell BK109.out 7).trans rfl; have hfz102_0 := blk_frozen BK109.out 0; have hfz102_1 := blk_frozen BK109.out 1; have hfz102_2 := blk_frozen BK109.out 2; have hfz102_3 := blk_frozen BK109.out 3; have hfz102_4 := blk_frozen BK109.out 4; have hfz102_5 := blk_frozen BK109.out 5; have hfz102_6 := blk_frozen BK109.out 6; have hfz102_7 := blk_frozen BK109.out 7; have hcz103_0 : w100.cell? ⟨gb101, 0, none⟩ = some (.slice (some ad108) l0_0.length c0_0) := (blk_cell BK101.out 0).trans rfl; have hcz103_1 : w100.cell? ⟨gb101, 1, none⟩ = some (.slice A0_1 l0_1.length c0_1) := (blk_cell BK101.out 1).trans rfl; have hcz103_2 : w100.cell? ⟨gb101, 2, none⟩ = some (.slice A0_2 l0_2.length c0_2) := (blk_cell BK101.out 2).trans rfl; have hcz103_3 : w100.cell? ⟨gb101, 3, none⟩ = some (.int .i64 a0_3) := (blk_cell BK101.out 3).trans rfl; have hfz103_0 := blk_frozen BK101.out 0; have hfz103_1 := blk_frozen BK101.out 1; have hfz103_2 := blk_frozen BK101.out 2; have hfz103_3 := blk_frozen BK101.out 3))
                   go_ret
                   exact ⟨by first | rfl | (simp [errW_none, errW_some] <;> rfl) | (simp only [← hji27]; first | rfl | (simp [errW_none, errW_some] <;> rfl)) | (simp [*, errW_none, errW_some] <;> rfl), by repeat (first | (with_reducible first | exact HB.out | apply lA | apply lN | apply lD | refine lS ?_ GE101.out | refine lS ?_ GE109.out) | exact HB.out)⟩
                 ·rw [if_neg c92] at H
                  have c92b0 : decide (((rd_T30 l0_0 ((rd_T52 t104 (ji27)).place)).a) < 0) = false := decide_eq_false c92
                  clear c92
                  by_cases c104 : ((rd_T30 l0_0 ((rd_T52 t104 (ji27)).place)).a) ≥ (l0_0.length : Int)
                  ·rw [if_pos c104] at H
                   have c104b0 : decide ((l0_0.length : Int) ≤ ((rd_T30 l0_0 ((rd_T52 t104 (ji27)).place)).a)) = true := decide_eq_true c104
                   clear c104
                   by_cases c105 : t102 = true
                   ·subst c105
                    have H1 : (some true) = some r := by rw [if_pos rfl] at H; exact H
                    clear H
                    have H := H1
                    clear H1
                    obtain rfl := Option.some.inj H
                    have hcz106_0 : wc.cell? ⟨gb101, 0, none⟩ = some (.slice A0_0 l0_0.length c0_0) := (blk_cell BK101.out 0).trans rfl
                    have hcz106_1 : wc.cell? ⟨gb101, 1, none⟩ = some (.slice A0_1 l0_1.length c0_1) := (blk_cell BK101.out 1).trans rfl
                    have hcz106_2 : wc.cell? ⟨gb101, 2, none⟩ = some (.slice A0_2 l0_2.length c0_2) := (blk_cell BK101.out 2).trans rfl
                    have hcz106_3 : wc.cell? ⟨gb101, 3, none⟩ = some (.int .i64 a0_3) := (blk_cell BK101.out 3).trans rfl
                    have hfz106_0 := blk_frozen BK101.out 0
                    have hfz106_1 := blk_frozen BK101.out 1
                    have hfz106_2 := blk_frozen BK101.out 2
                    have hfz106_3 := blk_frozen BK101.out 3
                    have p108 : 0 ≤ (((rd_T52 t104 (ji27)).place) : Int) := of_decide_eq_true (by first | (with_reducible assumption) | assumption)
                    have q108 : ((rd_T52 t104 (ji27)).place) < (l0_0.length : Int) := of_decide_eq_true (by first | (with_reducible assumption) | assumption)
                    obtain ⟨ad108, e108, hx108_0, hx108_1, hx108_2, hx108_3, hx108_4, hx108_5, hx108_6, hx108_7⟩ := at_T30 HR0_0.out ((rd_T52 t104 (ji27)).place) p108 q108
                    cases e108
                    replace hx108_0 := (HB.out.cell (blt_ hx108_0)).trans hx108_0
                    replace hx108_1 := (HB.out.cell (blt_ hx108_1)).trans hx108_1
                    replace hx108_2 := (HB.out.cell (blt_ hx108_2)).trans hx108_2
                    replace hx108_3 := (HB.out.cell (blt_ hx108_3)).trans hx108_3
                    replace hx108_4 := (HB.out.cell (blt_ hx108_4)).trans hx108_4
                    replace hx108_5 := (HB.out.cell (blt_ hx108_5)).trans hx108_5
                    replace hx108_6 := (HB.out.cell (blt_ hx108_6)).trans hx108_6
                    replace hx108_7 := (HB.out.cell (blt_ hx108_7)).trans hx108_7
                    replace p108 := eq_true p108
                    replace q108 := eq_true q108
                    go_wp2_with (first | ((with_reducible refine gate_dst (N := 6) rfl ?_); (try (refine gate_guard (by rfl) ?_; dsimp only)); refine box_event ?hg (N := 6) ?hd (cs := #[.int .i64 0, .string (⟨#[]⟩ : ByteArray), .string (⟨#[]⟩ : ByteArray), .string (⟨#[]⟩ : ByteArray), .string (⟨#[]⟩ : ByteArray), .int .i64 0, .int .i64 0, .int .i64 0]) (t := 30) ?hr ?_; (case hd => rfl); (case hg => rfl); (case hr => first | (go_simp; done) | (go_simp; rfl)); intro gb109 hg w107 hbox hb; replace HR107_1 := am (Kd.C_below (by repeat (first | (with_reducible exact HR107_1.out) | (with_reducible refine Kd.C_alloc ?_ _) | (with_reducible refine Kd.C_drewN ?_ _) | (with_reducible refine Kd.C_drew ?_) | exact HR107_1.out)) hb); have BK109 := am (hbox); have GW109 := am ((by rw [hg]; exact (below_size (by repeat (first | (with_reducible first | exact HB.out | apply lA | apply lN | apply lD | refine lS ?_ GE101.out) | exact HB.out))) : w.heap.size ≤ gb109)); have GE109 := am ((by rw [hg]; exact (below_size (by repeat (first | (with_reducible first | exact HB.out | apply lA | apply lN | apply lD | refine lS ?_ GE101.out) | exact HB.out))) : w.heap.size ≤ gb109)); replace HB := am (below_step (by repeat (first | (with_reducible first | exact HB.out | apply lA | apply lN | apply lD | refine lS ?_ GE101.out) | exact HB.out)) hb); have NB101_109 := am ((by rw [hg]; exact Nat.ne_of_lt (blk_lt (g := gb101) (o := .cells #[.slice (some ad108) l0_0.length c0_0, .slice A0_1 l0_1.length c0_1, .slice A0_2 l0_2.length c0_2, .int .i64 a0_3] 43 (0, 0)) (by (with_reducible repeat (first | refine bN ?_ _ | refine bD ?_ | refine bA ?_ _)); exact BK101.out)) : gb101 ≠ gb109)); have NB109_101 := am ((by rw [hg]; exact Nat.ne_of_gt (blk_lt (g := gb101) (o := .cells #[.slice (some ad108) l0_0.length c0_0, .slice A0_1 l0_1.length c0_1, .slice A0_2 l0_2.length c0_2, .int .i64 a0_3] 43 (0, 0)) (by (with_reducible repeat (first | refine bN ?_ _ | refine bD ?_ | refine bA ?_ _)); exact BK101.out)) : gb109 ≠ gb101)); replace BK101 := am (blk_below (g := gb101) (o := .cells #[.slice (some ad108) l0_0.length c0_0, .slice A0_1 l0_1.length c0_1, .slice A0_2 l0_2.length c0_2, .int .i64 a0_3] 43 (0, 0)) (by (with_reducible repeat (first | refine bN ?_ _ | refine bD ?_ | refine bA ?_ _)); exact BK101.out) hb); clear hb hbox hg; have hnb108 := NB109_101.out; have hnc108 := NB101_109.out; have hcz109_0 : w107.cell? ⟨gb109, 0, none⟩ = some (.int .i64 0) := (blk_cell BK109.out 0).trans rfl; have hcz109_1 : w107.cell? ⟨gb109, 1, none⟩ = some (.string (⟨#[]⟩ : ByteArray)) := (blk_cell BK109.out 1).trans rfl; have hcz109_2 : w107.cell? ⟨gb109, 2, none⟩ = some (.string (⟨#[]⟩ : ByteArray)) := (blk_cell BK109.out 2).trans rfl; have hcz109_3 : w107.cell? ⟨gb109, 3, none⟩ = some (.string (⟨#[]⟩ : ByteArray)) := (blk_cell BK109.out 3).trans rfl; have hcz109_4 : w107.cell? ⟨gb109, 4, none⟩ = some (.string (⟨#[]⟩ : ByteArray)) := (blk_cell BK109.out 4).trans rfl; have hcz109_5 : w107.cell? ⟨gb109, 5, none⟩ = some (.int .i64 0) := (blk_cell BK109.out 5).trans rfl; have hcz109_6 : w107.cell? ⟨gb109, 6, none⟩ = some (.int .i64 0) := (blk_cell BK109.out 6).trans rfl; have hcz109_7 : w107.cell? ⟨gb109, 7, none⟩ = some (.int .i64 0) := (blk_cell BK109.out 7).trans rfl; have hfz109_0 := blk_frozen BK109.out 0; have hfz109_1 := blk_frozen BK109.out 1; have hfz109_2 := blk_frozen BK109.out 2; have hfz109_3 := blk_frozen BK109.out 3; have hfz109_4 := blk_frozen BK109.out 4; have hfz109_5 := blk_frozen BK109.out 5; have hfz109_6 := blk_frozen BK109.out 6; have hfz109_7 := blk_frozen BK109.out 7; have hcz110_0 : w107.cell? ⟨gb101, 0, none⟩ = some (.slice (some ad108) l0_0.length c0_0) := (blk_cell BK101.out 0).trans rfl; have hcz110_1 : w107.cell? ⟨gb101, 1, none⟩ = some (.slice A0_1 l0_1.length c0_1) := (blk_cell BK101.out 1).trans rfl; have hcz110_2 : w107.cell? ⟨gb101, 2, none⟩ = some (.slice A0_2 l0_2.length c0_2) := (blk_cell BK101.out 2).trans rfl; have hcz110_3 : w107.cell? ⟨gb101, 3, none⟩ = some (.int .i64 a0_3) := (blk_cell BK101.out 3).trans rfl; have hfz110_0 := blk_frozen BK101.out 0; have hfz110_1 := blk_frozen BK101.out 1; have hfz110_2 := blk_frozen BK101.out 2; have hfz110_3 := blk_frozen BK101.out 3))
                    go_ret
                    exact ⟨by first | rfl | (simp [errW_none, errW_some] <;> rfl) | (simp only [← hji27]; first | rfl | (simp [errW_none, errW_some] <;> rfl)) | (simp [*, errW_none, errW_some] <;> rfl), by repeat (first | (with_reducible first | exact HB.out | apply lA | apply lN | apply lD | refine lS ?_ GE101.out | refine lS ?_ GE109.out) | exact HB.out)⟩
                   ·replace c105 := Bool.eq_false_iff.mpr c105
                    subst c105
                    have H1 : (some false) = some r := by rw [if_neg (show ¬ (false = true) by decide)] at H; exact H
                    clear H
                    have H := H1
                    clear H1
                    obtain rfl := Option.some.inj H
                    have hcz111_0 : wc.cell? ⟨gb101, 0, none⟩ = some (.slice A0_0 l0_0.length c0_0) := (blk_cell BK101.out 0).trans rfl
                    have hcz111_1 : wc.cell? ⟨gb101, 1, none⟩ = some (.slice A0_1 l0_1.length c0_1) := (blk_cell BK101.out 1).trans rfl
                    have hcz111_2 : wc.cell? ⟨gb101, 2, none⟩ = some (.slice A0_2 l0_2.length c0_2) := (blk_cell BK101.out 2).trans rfl
                    have hcz111_3 : wc.cell? ⟨gb101, 3, none⟩ = some (.int .i64 a0_3) := (blk_cell BK101.out 3).trans rfl
                    have hfz111_0 := blk_frozen BK101.out 0
                    have hfz111_1 := blk_frozen BK101.out 1
                    have hfz111_2 := blk_frozen BK101.out 2
                    have hfz111_3 := blk_frozen BK101.out 3
                    have p108 : 0 ≤ (((rd_T52 t104 (ji27)).place) : Int) := of_decide_eq_true (by first | (with_reducible assumption) | assumption)
                    have q108 : ((rd_T52 t104 (ji27)).place) < (l0_0.length : Int) := of_decide_eq_true (by first | (with_reducible assumption) | assumption)
                    obtain ⟨ad108, e108, hx108_0, hx108_1, hx108_2, hx108_3, hx108_4, hx108_5, hx108_6, hx108_7⟩ := at_T30 HR0_0.out ((rd_T52 t104 (ji27)).place) p108 q108
                    cases e108
                    replace hx108_0 := (HB.out.cell (blt_ hx108_0)).trans hx108_0
                    replace hx108_1 := (HB.out.cell (blt_ hx108_1)).trans hx108_1
                    replace hx108_2 := (HB.out.cell (blt_ hx108_2)).trans hx108_2
                    replace hx108_3 := (HB.out.cell (blt_ hx108_3)).trans hx108_3
                    replace hx108_4 := (HB.out.cell (blt_ hx108_4)).trans hx108_4
                    replace hx108_5 := (HB.out.cell (blt_ hx108_5)).trans hx108_5
                    replace hx108_6 := (HB.out.cell (blt_ hx108_6)).trans hx108_6
                    replace hx108_7 := (HB.out.cell (blt_ hx108_7)).trans hx108_7
                    replace p108 := eq_true p108
                    replace q108 := eq_true q108
                    go_wp2_with (first | ((with_reducible refine gate_dst (N := 6) rfl ?_); (try (refine gate_guard (by rfl) ?_; dsimp only)); refine box_event ?hg (N := 6) ?hd (cs := #[.int .i64 0, .string (⟨#[]⟩ : ByteArray), .string (⟨#[]⟩ : ByteArray), .string (⟨#[]⟩ : ByteArray), .string (⟨#[]⟩ : ByteArray), .int .i64 0, .int .i64 0, .int .i64 0]) (t := 30) ?hr ?_; (case hd => rfl); (case hg => rfl); (case hr => first | (go_simp; done) | (go_simp; rfl)); intro gb109 hg w112 hbox hb; replace HR107_1 := am (Kd.C_below (by repeat (first | (with_reducible exact HR107_1.out) | (with_reducible refine Kd.C_alloc ?_ _) | (with_reducible refine Kd.C_drewN ?_ _) | (with_reducible refine Kd.C_drew ?_) | exact HR107_1.out)) hb); have BK109 := am (hbox); have GW109 := am ((by rw [hg]; exact (below_size (by repeat (first | (with_reducible first | exact HB.out | apply lA | apply lN | apply lD | refine lS ?_ GE101.out) | exact HB.out))) : w.heap.size ≤ gb109)); have GE109 := am ((by rw [hg]; exact (below_size (by repeat (first | (with_reducible first | exact HB.out | apply lA | apply lN | apply lD | refine lS ?_ GE101.out) | exact HB.out))) : w.heap.size ≤ gb109)); replace HB := am (below_step (by repeat (first | (with_reducible first | exact HB.out | apply lA | apply lN | apply lD | refine lS ?_ GE101.out) | exact HB.out)) hb); have NB101_109 := am ((by rw [hg]; exact Nat.ne_of_lt (blk_lt (g := gb101) (o := .cells #[.slice (some ad108) l0_0.length c0_0, .slice A0_1 l0_1.length c0_1, .slice A0_2 l0_2.length c0_2, .int .i64 a0_3] 43 (0, 0)) (by (with_reducible repeat (first | refine bN ?_ _ | refine bD ?_ | refine bA ?_ _)); exact BK101.out)) : gb101 ≠ gb109)); have NB109_101 := am ((by rw [hg]; exact Nat.ne_of_gt (blk_lt (g := gb101) (o := .cells #[.slice (some ad108) l0_0.length c0_0, .slice A0_1 l0_1.length c0_1, .slice A0_2 l0_2.length c0_2, .int .i64 a0_3] 43 (0, 0)) (by (with_reducible repeat (first | refine bN ?_ _ | refine bD ?_ | refine bA ?_ _)); exact BK101.out)) : gb109 ≠ gb101)); replace BK101 := am (blk_below (g := gb101) (o := .cells #[.slice (some ad108) l0_0.length c0_0, .slice A0_1 l0_1.length c0_1, .slice A0_2 l0_2.length c0_2, .int .i64 a0_3] 43 (0, 0)) (by (with_reducible repeat (first | refine bN ?_ _ | refine bD ?_ | refine bA ?_ _)); exact BK101.out) hb); clear hb hbox hg; have hnb113 := NB109_101.out; have hnc113 := NB101_109.out; have hcz114_0 : w112.cell? ⟨gb109, 0, none⟩ = some (.int .i64 0) := (blk_cell BK109.out 0).trans rfl; have hcz114_1 : w112.cell? ⟨gb109, 1, none⟩ = some (.string (⟨#[]⟩ : ByteArray)) := (blk_cell BK109.out 1).trans rfl; have hcz114_2 : w112.cell? ⟨gb109, 2, none⟩ = some (.string (⟨#[]⟩ : ByteArray)) := (blk_cell BK109.out 2).trans rfl; have hcz114_3 : w112.cell? ⟨gb109, 3, none⟩ = some (.string (⟨#[]⟩ : ByteArray)) := (blk_cell BK109.out 3).trans rfl; have hcz114_4 : w112.cell? ⟨gb109, 4, none⟩ = some (.string (⟨#[]⟩ : ByteArray)) := (blk_cell BK109.out 4).trans rfl; have hcz114_5 : w112.cell? ⟨gb109, 5, none⟩ = some (.int .i64 0) := (blk_cell BK109.out 5).trans rfl; have hcz114_6 : w112.cell? ⟨gb109, 6, none⟩ = some (.int .i64 0) := (blk_cell BK109.out 6).trans rfl; have hcz114_7 : w112.cell? ⟨gb109, 7, none⟩ = some (.int .i64 0) := (blk_cell BK109.out 7).trans rfl; have hfz114_0 := blk_frozen BK109.out 0; have hfz114_1 := blk_frozen BK109.out 1; have hfz114_2 := blk_frozen BK109.out 2; have hfz114_3 := blk_frozen BK109.out 3; have hfz114_4 := blk_frozen BK109.out 4; have hfz114_5 := blk_frozen BK109.out 5; have hfz114_6 := blk_frozen BK109.out 6; have hfz114_7 := blk_frozen BK109.out 7; have hcz115_0 : w112.cell? ⟨gb101, 0, none⟩ = some (.slice (some ad108) l0_0.length c0_0) := (blk_cell BK101.out 0).trans rfl; have hcz115_1 : w112.cell? ⟨gb101, 1, none⟩ = some (.slice A0_1 l0_1.length c0_1) := (blk_cell BK101.out 1).trans rfl; have hcz115_2 : w112.cell? ⟨gb101, 2, none⟩ = some (.slice A0_2 l0_2.length c0_2) := (blk_cell BK101.out 2).trans rfl; have hcz115_3 : w112.cell? ⟨gb101, 3, none⟩ = some (.int .i64 a0_3) := (blk_cell BK101.out 3).trans rfl; have hfz115_0 := blk_frozen BK101.out 0; have hfz115_1 := blk_frozen BK101.out 1; have hfz115_2 := blk_frozen BK101.out 2; have hfz115_3 := blk_frozen BK101.out 3))
                    go_ret
                    exact ⟨by first | rfl | (simp [errW_none, errW_some] <;> rfl) | (simp only [← hji27]; first | rfl | (simp [errW_none, errW_some] <;> rfl)) | (simp [*, errW_none, errW_some] <;> rfl), by repeat (first | (with_reducible first | exact HB.out | apply lA | apply lN | apply lD | refine lS ?_ GE101.out | refine lS ?_ GE109.out) | exact HB.out)⟩
                  ·rw [if_neg c104] at H
                   have c104b0 : decide ((l0_0.length : Int) ≤ ((rd_T30 l0_0 ((rd_T52 t104 (ji27)).place)).a)) = false := decide_eq_false c104
                   clear c104
                   by_cases c116 : t102 = true
                   ·subst c116
                    have H1 : (some (((rd_T30 l0_0 ((rd_T52 t104 (ji27)).place)).kind) == 9)) = some r := by rw [if_pos rfl] at H; exact H
                    clear H
                    have H := H1
                    clear H1
                    obtain rfl := Option.some.inj H
                    have hcz117_0 : wc.cell? ⟨gb101, 0, none⟩ = some (.slice A0_0 l0_0.length c0_0) := (blk_cell BK101.out 0).trans rfl
                    have hcz117_1 : wc.cell? ⟨gb101, 1, none⟩ = some (.slice A0_1 l0_1.length c0_1) := (blk_cell BK101.out 1).trans rfl
                    have hcz117_2 : wc.cell? ⟨gb101, 2, none⟩ = some (.slice A0_2 l0_2.length c0_2) := (blk_cell BK101.out 2).trans rfl
                    have hcz117_3 : wc.cell? ⟨gb101, 3, none⟩ = some (.int .i64 a0_3) := (blk_cell BK101.out 3).trans rfl
                    have hfz117_0 := blk_frozen BK101.out 0
                    have hfz117_1 := blk_frozen BK101.out 1
                    have hfz117_2 := blk_frozen BK101.out 2
                    have hfz117_3 := blk_frozen BK101.out 3
                    have p108 : 0 ≤ (((rd_T52 t104 (ji27)).place) : Int) := of_decide_eq_true (by first | (with_reducible assumption) | assumption)
                    have q108 : ((rd_T52 t104 (ji27)).place) < (l0_0.length : Int) := of_decide_eq_true (by first | (with_reducible assumption) | assumption)
                    obtain ⟨ad108, e108, hx108_0, hx108_1, hx108_2, hx108_3, hx108_4, hx108_5, hx108_6, hx108_7⟩ := at_T30 HR0_0.out ((rd_T52 t104 (ji27)).place) p108 q108
                    cases e108
                    replace hx108_0 := (HB.out.cell (blt_ hx108_0)).trans hx108_0
                    replace hx108_1 := (HB.out.cell (blt_ hx108_1)).trans hx108_1
                    replace hx108_2 := (HB.out.cell (blt_ hx108_2)).trans hx108_2
                    replace hx108_3 := (HB.out.cell (blt_ hx108_3)).trans hx108_3
                    replace hx108_4 := (HB.out.cell (blt_ hx108_4)).trans hx108_4
                    replace hx108_5 := (HB.out.cell (blt_ hx108_5)).trans hx108_5
                    replace hx108_6 := (HB.out.cell (blt_ hx108_6)).trans hx108_6
                    replace hx108_7 := (HB.out.cell (blt_ hx108_7)).trans hx108_7
                    replace p108 := eq_true p108
                    replace q108 := eq_true q108
                    go_wp2_with (first | ((with_reducible refine gate_dst (N := 6) rfl ?_); (try (refine gate_guard (by rfl) ?_; dsimp only)); refine box_event ?hg (N := 6) ?hd (cs := #[.int .i64 0, .string (⟨#[]⟩ : ByteArray), .string (⟨#[]⟩ : ByteArray), .string (⟨#[]⟩ : ByteArray), .string (⟨#[]⟩ : ByteArray), .int .i64 0, .int .i64 0, .int .i64 0]) (t := 30) ?hr ?_; (case hd => rfl); (case hg => rfl); (case hr => first | (go_simp; done) | (go_simp; rfl)); intro gb109 hg w118 hbox hb; replace HR107_1 := am (Kd.C_below (by repeat (first | (with_reducible exact HR107_1.out) | (with_reducible refine Kd.C_alloc ?_ _) | (with_reducible refine Kd.C_drewN ?_ _) | (with_reducible refine Kd.C_drew ?_) | exact HR107_1.out)) hb); have BK109 := am (hbox); have GW109 := am ((by rw [hg]; exact (below_size (by repeat (first | (with_reducible first | exact HB.out | apply lA | apply lN | apply lD | refine lS ?_ GE101.out) | exact HB.out))) : w.heap.size ≤ gb109)); have GE109 := am ((by rw [hg]; exact (below_size (by repeat (first | (with_reducible first | exact HB.out | apply lA | apply lN | apply lD | refine lS ?_ GE101.out) | exact HB.out))) : w.heap.size ≤ gb109)); replace HB := am (below_step (by repeat (first | (with_reducible first | exact HB.out | apply lA | apply lN | apply lD | refine lS ?_ GE101.out) | exact HB.out)) hb); have NB101_109 := am ((by rw [hg]; exact Nat.ne_of_lt (blk_lt (g := gb101) (o := .cells #[.slice (some ad108) l0_0.length c0_0, .slice A0_1 l0_1.length c0_1, .slice A0_2 l0_2.length c0_2, .int .i64 a0_3] 43 (0, 0)) (by (with_reducible repeat (first | refine bN ?_ _ | refine bD ?_ | refine bA ?_ _)); exact BK101.out)) : gb101 ≠ gb109)); have NB109_101 := am ((by rw [hg]; exact Nat.ne_of_gt (blk_lt (g := gb101) (o := .cells #[.slice (some ad108) l0_0.length c0_0, .slice A0_1 l0_1.length c0_1, .slice A0_2 l0_2.length c0_2, .int .i64 a0_3] 43 (0, 0)) (by (with_reducible repeat (first | refine bN ?_ _ | refine bD ?_ | refine bA ?_ _)); exact BK101.out)) : gb109 ≠ gb101)); replace BK101 := am (blk_below (g := gb101) (o := .cells #[.slice (some ad108) l0_0.length c0_0, .slice A0_1 l0_1.length c0_1, .slice A0_2 l0_2.length c0_2, .int .i64 a0_3] 43 (0, 0)) (by (with_reducible repeat (first | refine bN ?_ _ | refine bD ?_ | refine bA ?_ _)); exact BK101.out) hb); clear hb hbox hg; have hnb119 := NB109_101.out; have hnc119 := NB101_109.out; have hcz120_0 : w118.cell? ⟨gb109, 0, none⟩ = some (.int .i64 0) := (blk_cell BK109.out 0).trans rfl; have hcz120_1 : w118.cell? ⟨gb109, 1, none⟩ = some (.string (⟨#[]⟩ : ByteArray)) := (blk_cell BK109.out 1).trans rfl; have hcz120_2 : w118.cell? ⟨gb109, 2, none⟩ = some (.string (⟨#[]⟩ : ByteArray)) := (blk_cell BK109.out 2).trans rfl; have hcz120_3 : w118.cell? ⟨gb109, 3, none⟩ = some (.string (⟨#[]⟩ : ByteArray)) := (blk_cell BK109.out 3).trans rfl; have hcz120_4 : w118.cell? ⟨gb109, 4, none⟩ = some (.string (⟨#[]⟩ : ByteArray)) := (blk_cell BK109.out 4).trans rfl; have hcz120_5 : w118.cell? ⟨gb109, 5, none⟩ = some (.int .i64 0) := (blk_cell BK109.out 5).trans rfl; have hcz120_6 : w118.cell? ⟨gb109, 6, none⟩ = some (.int .i64 0) := (blk_cell BK109.out 6).trans rfl; have hcz120_7 : w118.cell? ⟨gb109, 7, none⟩ = some (.int .i64 0) := (blk_cell BK109.out 7).trans rfl; have hfz120_0 := blk_frozen BK109.out 0; have hfz120_1 := blk_frozen BK109.out 1; have hfz120_2 := blk_frozen BK109.out 2; have hfz120_3 := blk_frozen BK109.out 3; have hfz120_4 := blk_frozen BK109.out 4; have hfz120_5 := blk_frozen BK109.out 5; have hfz120_6 := blk_frozen BK109.out 6; have hfz120_7 := blk_frozen BK109.out 7; have hcz121_0 : w118.cell? ⟨gb101, 0, none⟩ = some (.slice (some ad108) l0_0.length c0_0) := (blk_cell BK101.out 0).trans rfl; have hcz121_1 : w118.cell? ⟨gb101, 1, none⟩ = some (.slice A0_1 l0_1.length c0_1) := (blk_cell BK101.out 1).trans rfl; have hcz121_2 : w118.cell? ⟨gb101, 2, none⟩ = some (.slice A0_2 l0_2.length c0_2) := (blk_cell BK101.out 2).trans rfl; have hcz121_3 : w118.cell? ⟨gb101, 3, none⟩ = some (.int .i64 a0_3) := (blk_cell BK101.out 3).trans rfl; have hfz121_0 := blk_frozen BK101.out 0; have hfz121_1 := blk_frozen BK101.out 1; have hfz121_2 := blk_frozen BK101.out 2; have hfz121_3 := blk_frozen BK101.out 3))
                    go_ret
                    exact ⟨by first | rfl | (simp [errW_none, errW_some] <;> rfl) | (simp only [← hji27]; first | rfl | (simp [errW_none, errW_some] <;> rfl)) | (simp [*, errW_none, errW_some] <;> rfl), by repeat (first | (with_reducible first | exact HB.out | apply lA | apply lN | apply lD | refine lS ?_ GE101.out | refine lS ?_ GE109.out) | exact HB.out)⟩
                   ·replace c116 := Bool.eq_false_iff.mpr c116
                    subst c116
                    have H1 : (some false) = some r := by rw [if_neg (show ¬ (false = true) by decide)] at H; exact H
                    clear H
                    have H := H1
                    clear H1
                    obtain rfl := Option.some.inj H
                    have hcz122_0 : wc.cell? ⟨gb101, 0, none⟩ = some (.slice A0_0 l0_0.length c0_0) := (blk_cell BK101.out 0).trans rfl
                    have hcz122_1 : wc.cell? ⟨gb101, 1, none⟩ = some (.slice A0_1 l0_1.length c0_1) := (blk_cell BK101.out 1).trans rfl
                    have hcz122_2 : wc.cell? ⟨gb101, 2, none⟩ = some (.slice A0_2 l0_2.length c0_2) := (blk_cell BK101.out 2).trans rfl
                    have hcz122_3 : wc.cell? ⟨gb101, 3, none⟩ = some (.int .i64 a0_3) := (blk_cell BK101.out 3).trans rfl
                    have hfz122_0 := blk_frozen BK101.out 0
                    have hfz122_1 := blk_frozen BK101.out 1
                    have hfz122_2 := blk_frozen BK101.out 2
                    have hfz122_3 := blk_frozen BK101.out 3
                    have p108 : 0 ≤ (((rd_T52 t104 (ji27)).place) : Int) := of_decide_eq_true (by first | (with_reducible assumption) | assumption)
                    have q108 : ((rd_T52 t104 (ji27)).place) < (l0_0.length : Int) := of_decide_eq_true (by first | (with_reducible assumption) | assumption)
                    obtain ⟨ad108, e108, hx108_0, hx108_1, hx108_2, hx108_3, hx108_4, hx108_5, hx108_6, hx108_7⟩ := at_T30 HR0_0.out ((rd_T52 t104 (ji27)).place) p108 q108
                    cases e108
                    replace hx108_0 := (HB.out.cell (blt_ hx108_0)).trans hx108_0
                    replace hx108_1 := (HB.out.cell (blt_ hx108_1)).trans hx108_1
                    replace hx108_2 := (HB.out.cell (blt_ hx108_2)).trans hx108_2
                    replace hx108_3 := (HB.out.cell (blt_ hx108_3)).trans hx108_3
                    replace hx108_4 := (HB.out.cell (blt_ hx108_4)).trans hx108_4
                    replace hx108_5 := (HB.out.cell (blt_ hx108_5)).trans hx108_5
                    replace hx108_6 := (HB.out.cell (blt_ hx108_6)).trans hx108_6
                    replace hx108_7 := (HB.out.cell (blt_ hx108_7)).trans hx108_7
                    replace p108 := eq_true p108
                    replace q108 := eq_true q108
                    go_wp2_with (first | ((with_reducible refine gate_dst (N := 6) rfl ?_); (try (refine gate_guard (by rfl) ?_; dsimp only)); refine box_event ?hg (N := 6) ?hd (cs := #[.int .i64 0, .string (⟨#[]⟩ : ByteArray), .string (⟨#[]⟩ : ByteArray), .string (⟨#[]⟩ : ByteArray), .string (⟨#[]⟩ : ByteArray), .int .i64 0, .int .i64 0, .int .i64 0]) (t := 30) ?hr ?_; (case hd => rfl); (case hg => rfl); (case hr => first | (go_simp; done) | (go_simp; rfl)); intro gb109 hg w123 hbox hb; replace HR107_1 := am (Kd.C_below (by repeat (first | (with_reducible exact HR107_1.out) | (with_reducible refine Kd.C_alloc ?_ _) | (with_reducible refine Kd.C_drewN ?_ _) | (with_reducible refine Kd.C_drew ?_) | exact HR107_1.out)) hb); have BK109 := am (hbox); have GW109 := am ((by rw [hg]; exact (below_size (by repeat (first | (with_reducible first | exact HB.out | apply lA | apply lN | apply lD | refine lS ?_ GE101.out) | exact HB.out))) : w.heap.size ≤ gb109)); have GE109 := am ((by rw [hg]; exact (below_size (by repeat (first | (with_reducible first | exact HB.out | apply lA | apply lN | apply lD | refine lS ?_ GE101.out) | exact HB.out))) : w.heap.size ≤ gb109)); replace HB := am (below_step (by repeat (first | (with_reducible first | exact HB.out | apply lA | apply lN | apply lD | refine lS ?_ GE101.out) | exact HB.out)) hb); have NB101_109 := am ((by rw [hg]; exact Nat.ne_of_lt (blk_lt (g := gb101) (o := .cells #[.slice (some ad108) l0_0.length c0_0, .slice A0_1 l0_1.length c0_1, .slice A0_2 l0_2.length c0_2, .int .i64 a0_3] 43 (0, 0)) (by (with_reducible repeat (first | refine bN ?_ _ | refine bD ?_ | refine bA ?_ _)); exact BK101.out)) : gb101 ≠ gb109)); have NB109_101 := am ((by rw [hg]; exact Nat.ne_of_gt (blk_lt (g := gb101) (o := .cells #[.slice (some ad108) l0_0.length c0_0, .slice A0_1 l0_1.length c0_1, .slice A0_2 l0_2.length c0_2, .int .i64 a0_3] 43 (0, 0)) (by (with_reducible repeat (first | refine bN ?_ _ | refine bD ?_ | refine bA ?_ _)); exact BK101.out)) : gb109 ≠ gb101)); replace BK101 := am (blk_below (g := gb101) (o := .cells #[.slice (some ad108) l0_0.length c0_0, .slice A0_1 l0_1.length c0_1, .slice A0_2 l0_2.length c0_2, .int .i64 a0_3] 43 (0, 0)) (by (with_reducible repeat (first | refine bN ?_ _ | refine bD ?_ | refine bA ?_ _)); exact BK101.out) hb); clear hb hbox hg; have hnb124 := NB109_101.out; have hnc124 := NB101_109.out; have hcz125_0 : w123.cell? ⟨gb109, 0, none⟩ = some (.int .i64 0) := (blk_cell BK109.out 0).trans rfl; have hcz125_1 : w123.cell? ⟨gb109, 1, none⟩ = some (.string (⟨#[]⟩ : ByteArray)) := (blk_cell BK109.out 1).trans rfl; have hcz125_2 : w123.cell? ⟨gb109, 2, none⟩ = some (.string (⟨#[]⟩ : ByteArray)) := (blk_cell BK109.out 2).trans rfl; have hcz125_3 : w123.cell? ⟨gb109, 3, none⟩ = some (.string (⟨#[]⟩ : ByteArray)) := (blk_cell BK109.out 3).trans rfl; have hcz125_4 : w123.cell? ⟨gb109, 4, none⟩ = some (.string (⟨#[]⟩ : ByteArray)) := (blk_cell BK109.out 4).trans rfl; have hcz125_5 : w123.cell? ⟨gb109, 5, none⟩ = some (.int .i64 0) := (blk_cell BK109.out 5).trans rfl; have hcz125_6 : w123.cell? ⟨gb109, 6, none⟩ = some (.int .i64 0) := (blk_cell BK109.out 6).trans rfl; have hcz125_7 : w123.cell? ⟨gb109, 7, none⟩ = some (.int .i64 0) := (blk_cell BK109.out 7).trans rfl; have hfz125_0 := blk_frozen BK109.out 0; have hfz125_1 := blk_frozen BK109.out 1; have hfz125_2 := blk_frozen BK109.out 2; have hfz125_3 := blk_frozen BK109.out 3; have hfz125_4 := blk_frozen BK109.out 4; have hfz125_5 := blk_frozen BK109.out 5; have hfz125_6 := blk_frozen BK109.out 6; have hfz125_7 := blk_frozen BK109.out 7; have hcz126_0 : w123.cell? ⟨gb101, 0, none⟩ = some (.slice (some ad108) l0_0.length c0_0) := (blk_cell BK101.out 0).trans rfl; have hcz126_1 : w123.cell? ⟨gb101, 1, none⟩ = some (.slice A0_1 l0_1.length c0_1) := (blk_cell BK101.out 1).trans rfl; have hcz126_2 : w123.cell? ⟨gb101, 2, none⟩ = some (.slice A0_2 l0_2.length c0_2) := (blk_cell BK101.out 2).trans rfl; have hcz126_3 : w123.cell? ⟨gb101, 3, none⟩ = some (.int .i64 a0_3) := (blk_cell BK101.out 3).trans rfl; have hfz126_0 := blk_frozen BK101.out 0; have hfz126_1 := blk_frozen BK101.out 1; have hfz126_2 := blk_frozen BK101.out 2; have hfz126_3 := blk_frozen BK101.out 3))
                    go_ret
                    exact ⟨by first | rfl | (simp [errW_none, errW_some] <;> rfl) | (simp only [← hji27]; first | rfl | (simp [errW_none, errW_some] <;> rfl)) | (simp [*, errW_none, errW_some] <;> rfl), by repeat (first | (with_reducible first | exact HB.out | apply lA | apply lN | apply lD | refine lS ?_ GE101.out | refine lS ?_ GE109.out) | exact HB.out)⟩
                ·rw [if_neg c91] at H
                 have c91b0 : (((rd_T30 l0_0 ((rd_T52 t104 (ji27)).place)).kind) == 8) = false := beq_eq_false_iff_ne.mpr c91
                 have c91b1 : (((rd_T30 l0_0 ((rd_T52 t104 (ji27)).place)).kind) != 8) = true := bne_iff_ne.mpr c91
                 by_cases c127 : t102 = true
                 ·subst c127
                  have H1 : (if ((rd_T52 t104 (ji27)).place) = (wrap64 ((l0_0.length : Int) - 1)) then (some true) else (some (((rd_T30 l0_0 ((rd_T52 t104 (ji27)).place)).kind) == 9))) = some r := by rw [if_pos rfl] at H; exact H
                  clear H
                  have H := H1
                  clear H1
                  by_cases c128 : ((rd_T52 t104 (ji27)).place) = (wrap64 ((l0_0.length : Int) - 1))
                  ·rw [if_pos c128] at H
                   have c128b0 : (((rd_T52 t104 (ji27)).place) == (wrap64 ((l0_0.length : Int) - 1))) = true := beq_iff_eq.mpr c128
                   have c128b1 : (((rd_T52 t104 (ji27)).place) != (wrap64 ((l0_0.length : Int) - 1))) = false := bne_eq_false_iff_eq.mpr c128
                   clear c128
                   obtain rfl := Option.some.inj H
                   have hcz129_0 : wc.cell? ⟨gb101, 0, none⟩ = some (.slice A0_0 l0_0.length c0_0) := (blk_cell BK101.out 0).trans rfl
                   have hcz129_1 : wc.cell? ⟨gb101, 1, none⟩ = some (.slice A0_1 l0_1.length c0_1) := (blk_cell BK101.out 1).trans rfl
                   have hcz129_2 : wc.cell? ⟨gb101, 2, none⟩ = some (.slice A0_2 l0_2.length c0_2) := (blk_cell BK101.out 2).trans rfl
                   have hcz129_3 : wc.cell? ⟨gb101, 3, none⟩ = some (.int .i64 a0_3) := (blk_cell BK101.out 3).trans rfl
                   have hfz129_0 := blk_frozen BK101.out 0
                   have hfz129_1 := blk_frozen BK101.out 1
                   have hfz129_2 := blk_frozen BK101.out 2
                   have hfz129_3 := blk_frozen BK101.out 3
                   have p108 : 0 ≤ (((rd_T52 t104 (ji27)).place) : Int) := of_decide_eq_true (by first | (with_reducible assumption) | assumption)
                   have q108 : ((rd_T52 t104 (ji27)).place) < (l0_0.length : Int) := of_decide_eq_true (by first | (with_reducible assumption) | assumption)
                   obtain ⟨ad108, e108, hx108_0, hx108_1, hx108_2, hx108_3, hx108_4, hx108_5, hx108_6, hx108_7⟩ := at_T30 HR0_0.out ((rd_T52 t104 (ji27)).place) p108 q108
                   cases e108
                   replace hx108_0 := (HB.out.cell (blt_ hx108_0)).trans hx108_0
                   replace hx108_1 := (HB.out.cell (blt_ hx108_1)).trans hx108_1
                   replace hx108_2 := (HB.out.cell (blt_ hx108_2)).trans hx108_2
                   replace hx108_3 := (HB.out.cell (blt_ hx108_3)).trans hx108_3
                   replace hx108_4 := (HB.out.cell (blt_ hx108_4)).trans hx108_4
                   replace hx108_5 := (HB.out.cell (blt_ hx108_5)).trans hx108_5
                   replace hx108_6 := (HB.out.cell (blt_ hx108_6)).trans hx108_6
                   replace hx108_7 := (HB.out.cell (blt_ hx108_7)).trans hx108_7
                   replace p108 := eq_true p108
                   replace q108 := eq_true q108
                   go_wp2_with (first | ((with_reducible refine gate_dst (N := 6) rfl ?_); (try (refine gate_guard (by rfl) ?_; dsimp only)); refine box_event ?hg (N := 6) ?hd (cs := #[.int .i64 0, .string (⟨#[]⟩ : ByteArray), .string (⟨#[]⟩ : ByteArray), .string (⟨#[]⟩ : ByteArray), .string (⟨#[]⟩ : ByteArray), .int .i64 0, .int .i64 0, .int .i64 0]) (t := 30) ?hr ?_; (case hd => rfl); (case hg => rfl); (case hr => first | (go_simp; done) | (go_simp; rfl)); intro gb109 hg w130 hbox hb; replace HR107_1 := am (Kd.C_below (by repeat (first | (with_reducible exact HR107_1.out) | (with_reducible refine Kd.C_alloc ?_ _) | (with_reducible refine Kd.C_drewN ?_ _) | (with_reducible refine Kd.C_drew ?_) | exact HR107_1.out)) hb); have BK109 := am (hbox); have GW109 := am ((by rw [hg]; exact (below_size (by repeat (first | (with_reducible first | exact HB.out | apply lA | apply lN | apply lD | refine lS ?_ GE101.out) | exact HB.out))) : w.heap.size ≤ gb109)); have GE109 := am ((by rw [hg]; exact (below_size (by repeat (first | (with_reducible first | exact HB.out | apply lA | apply lN | apply lD | refine lS ?_ GE101.out) | exact HB.out))) : w.heap.size ≤ gb109)); replace HB := am (below_step (by repeat (first | (with_reducible first | exact HB.out | apply lA | apply lN | apply lD | refine lS ?_ GE101.out) | exact HB.out)) hb); have NB101_109 := am ((by rw [hg]; exact Nat.ne_of_lt (blk_lt (g := gb101) (o := .cells #[.slice (some ad108) l0_0.length c0_0, .slice A0_1 l0_1.length c0_1, .slice A0_2 l0_2.length c0_2, .int .i64 a0_3] 43 (0, 0)) (by (with_reducible repeat (first | refine bN ?_ _ | refine bD ?_ | refine bA ?_ _)); exact BK101.out)) : gb101 ≠ gb109)); have NB109_101 := am ((by rw [hg]; exact Nat.ne_of_gt (blk_lt (g := gb101) (o := .cells #[.slice (some ad108) l0_0.length c0_0, .slice A0_1 l0_1.length c0_1, .slice A0_2 l0_2.length c0_2, .int .i64 a0_3] 43 (0, 0)) (by (with_reducible repeat (first | refine bN ?_ _ | refine bD ?_ | refine bA ?_ _)); exact BK101.out)) : gb109 ≠ gb101)); replace BK101 := am (blk_below (g := gb101) (o := .cells #[.slice (some ad108) l0_0.length c0_0, .slice A0_1 l0_1.length c0_1, .slice A0_2 l0_2.length c0_2, .int .i64 a0_3] 43 (0, 0)) (by (with_reducible repeat (first | refine bN ?_ _ | refine bD ?_ | refine bA ?_ _)); exact BK101.out) hb); clear hb hbox hg; have hnb131 := NB109_101.out; have hnc131 := NB101_109.out; have hcz132_0 : w130.cell? ⟨gb109, 0, none⟩ = some (.int .i64 0) := (blk_cell BK109.out 0).trans rfl; have hcz132_1 : w130.cell? ⟨gb109, 1, none⟩ = some (.string (⟨#[]⟩ : ByteArray)) := (blk_cell BK109.out 1).trans rfl; have hcz132_2 : w130.cell? ⟨gb109, 2, none⟩ = some (.string (⟨#[]⟩ : ByteArray)) := (blk_cell BK109.out 2).trans rfl; have hcz132_3 : w130.cell? ⟨gb109, 3, none⟩ = some (.string (⟨#[]⟩ : ByteArray)) := (blk_cell BK109.out 3).trans rfl; have hcz132_4 : w130.cell? ⟨gb109, 4, none⟩ = some (.string (⟨#[]⟩ : ByteArray)) := (blk_cell BK109.out 4).trans rfl; have hcz132_5 : w130.cell? ⟨gb109, 5, none⟩ = some (.int .i64 0) := (blk_cell BK109.out 5).trans rfl; have hcz132_6 : w130.cell? ⟨gb109, 6, none⟩ = some (.int .i64 0) := (blk_cell BK109.out 6).trans rfl; have hcz132_7 : w130.cell? ⟨gb109, 7, none⟩ = some (.int .i64 0) := (blk_cell BK109.out 7).trans rfl; have hfz132_0 := blk_frozen BK109.out 0; have hfz132_1 := blk_frozen BK109.out 1; have hfz132_2 := blk_frozen BK109.out 2; have hfz132_3 := blk_frozen BK109.out 3; have hfz132_4 := blk_frozen BK109.out 4; have hfz132_5 := blk_frozen BK109.out 5; have hfz132_6 := blk_frozen BK109.out 6; have hfz132_7 := blk_frozen BK109.out 7; have hcz133_0 : w130.cell? ⟨gb101, 0, none⟩ = some (.slice (some ad108) l0_0.length c0_0) := (blk_cell BK101.out 0).trans rfl; have hcz133_1 : w130.cell? ⟨gb101, 1, none⟩ = some (.slice A0_1 l0_1.length c0_1) := (blk_cell BK101.out 1).trans rfl; have hcz133_2 : w130.cell? ⟨gb101, 2, none⟩ = some (.slice A0_2 l0_2.length c0_2) := (blk_cell BK101.out 2).trans rfl; have hcz133_3 : w130.cell? ⟨gb101, 3, none⟩ = some (.int .i64 a0_3) := (blk_cell BK101.out 3).trans rfl; have hfz133_0 := blk_frozen BK101.out 0; have hfz133_1 := blk_frozen BK101.out 1; have hfz133_2 := blk_frozen BK101.out 2; have hfz133_3 := blk_frozen BK101.out 3))
                   go_ret
                   exact ⟨by first | rfl | (simp [errW_none, errW_some] <;> rfl) | (simp only [← hji27]; first | rfl | (simp [errW_none, errW_some] <;> rfl)) | (simp [*, errW_none, errW_some] <;> rfl), by repeat (first | (with_reducible first | exact HB.out | apply lA | apply lN | apply lD | refine lS ?_ GE101.out | refine lS ?_ GE109.out) | exact HB.out)⟩
                  ·rw [if_neg c128] at H
                   have c128b0 : (((rd_T52 t104 (ji27)).place) == (wrap64 ((l0_0.length : Int) - 1))) = false := beq_eq_false_iff_ne.mpr c128
                   have c128b1 : (((rd_T52 t104 (ji27)).place) != (wrap64 ((l0_0.length : Int) - 1))) = true := bne_iff_ne.mpr c128
                   obtain rfl := Option.some.inj H
                   have hcz134_0 : wc.cell? ⟨gb101, 0, none⟩ = some (.slice A0_0 l0_0.length c0_0) := (blk_cell BK101.out 0).trans rfl
                   have hcz134_1 : wc.cell? ⟨gb101, 1, none⟩ = some (.slice A0_1 l0_1.length c0_1) := (blk_cell BK101.out 1).trans rfl
                   have hcz134_2 : wc.cell? ⟨gb101, 2, none⟩ = some (.slice A0_2 l0_2.length c0_2) := (blk_cell BK101.out 2).trans rfl
                   have hcz134_3 : wc.cell? ⟨gb101, 3, none⟩ = some (.int .i64 a0_3) := (blk_cell BK101.out 3).trans rfl
                   have hfz134_0 := blk_frozen BK101.out 0
                   have hfz134_1 := blk_frozen BK101.out 1
                   have hfz134_2 := blk_frozen BK101.out 2
                   have hfz134_3 := blk_frozen BK101.out 3
                   have p108 : 0 ≤ (((rd_T52 t104 (ji27)).place) : Int) := of_decide_eq_true (by first | (with_reducible assumption) | assumption)
                   have q108 : ((rd_T52 t104 (ji27)).place) < (l0_0.length : Int) := of_decide_eq_true (by first | (with_reducible assumption) | assumption)
                   obtain ⟨ad108, e108, hx108_0, hx108_1, hx108_2, hx108_3, hx108_4, hx108_5, hx108_6, hx108_7⟩ := at_T30 HR0_0.out ((rd_T52 t104 (ji27)).place) p108 q108
                   cases e108
                   replace hx108_0 := (HB.out.cell (blt_ hx108_0)).trans hx108_0
                   replace hx108_1 := (HB.out.cell (blt_ hx108_1)).trans hx108_1
                   replace hx108_2 := (HB.out.cell (blt_ hx108_2)).trans hx108_2
                   replace hx108_3 := (HB.out.cell (blt_ hx108_3)).trans hx108_3
                   replace hx108_4 := (HB.out.cell (blt_ hx108_4)).trans hx108_4
                   replace hx108_5 := (HB.out.cell (blt_ hx108_5)).trans hx108_5
                   replace hx108_6 := (HB.out.cell (blt_ hx108_6)).trans hx108_6
                   replace hx108_7 := (HB.out.cell (blt_ hx108_7)).trans hx108_7
                   replace p108 := eq_true p108
                   replace q108 := eq_true q108
                   go_wp2_with (first | ((with_reducible refine gate_dst (N := 6) rfl ?_); (try (refine gate_guard (by rfl) ?_; dsimp only)); refine box_event ?hg (N := 6) ?hd (cs := #[.int .i64 0, .string (⟨#[]⟩ : ByteArray), .string (⟨#[]⟩ : ByteArray), .string (⟨#[]⟩ : ByteArray), .string (⟨#[]⟩ : ByteArray), .int .i64 0, .int .i64 0, .int .i64 0]) (t := 30) ?hr ?_; (case hd => rfl); (case hg => rfl); (case hr => first | (go_simp; done) | (go_simp; rfl)); intro gb109 hg w135 hbox hb; replace HR107_1 := am (Kd.C_below (by repeat (first | (with_reducible exact HR107_1.out) | (with_reducible refine Kd.C_alloc ?_ _) | (with_reducible refine Kd.C_drewN ?_ _) | (with_reducible refine Kd.C_drew ?_) | exact HR107_1.out)) hb); have BK109 := am (hbox); have GW109 := am ((by rw [hg]; exact (below_size (by repeat (first | (with_reducible first | exact HB.out | apply lA | apply lN | apply lD | refine lS ?_ GE101.out) | exact HB.out))) : w.heap.size ≤ gb109)); have GE109 := am ((by rw [hg]; exact (below_size (by repeat (first | (with_reducible first | exact HB.out | apply lA | apply lN | apply lD | refine lS ?_ GE101.out) | exact HB.out))) : w.heap.size ≤ gb109)); replace HB := am (below_step (by repeat (first | (with_reducible first | exact HB.out | apply lA | apply lN | apply lD | refine lS ?_ GE101.out) | exact HB.out)) hb); have NB101_109 := am ((by rw [hg]; exact Nat.ne_of_lt (blk_lt (g := gb101) (o := .cells #[.slice (some ad108) l0_0.length c0_0, .slice A0_1 l0_1.length c0_1, .slice A0_2 l0_2.length c0_2, .int .i64 a0_3] 43 (0, 0)) (by (with_reducible repeat (first | refine bN ?_ _ | refine bD ?_ | refine bA ?_ _)); exact BK101.out)) : gb101 ≠ gb109)); have NB109_101 := am ((by rw [hg]; exact Nat.ne_of_gt (blk_lt (g := gb101) (o := .cells #[.slice (some ad108) l0_0.length c0_0, .slice A0_1 l0_1.length c0_1, .slice A0_2 l0_2.length c0_2, .int .i64 a0_3] 43 (0, 0)) (by (with_reducible repeat (first | refine bN ?_ _ | refine bD ?_ | refine bA ?_ _)); exact BK101.out)) : gb109 ≠ gb101)); replace BK101 := am (blk_below (g := gb101) (o := .cells #[.slice (some ad108) l0_0.length c0_0, .slice A0_1 l0_1.length c0_1, .slice A0_2 l0_2.length c0_2, .int .i64 a0_3] 43 (0, 0)) (by (with_reducible repeat (first | refine bN ?_ _ | refine bD ?_ | refine bA ?_ _)); exact BK101.out) hb); clear hb hbox hg; have hnb136 := NB109_101.out; have hnc136 := NB101_109.out; have hcz137_0 : w135.cell? ⟨gb109, 0, none⟩ = some (.int .i64 0) := (blk_cell BK109.out 0).trans rfl; have hcz137_1 : w135.cell? ⟨gb109, 1, none⟩ = some (.string (⟨#[]⟩ : ByteArray)) := (blk_cell BK109.out 1).trans rfl; have hcz137_2 : w135.cell? ⟨gb109, 2, none⟩ = some (.string (⟨#[]⟩ : ByteArray)) := (blk_cell BK109.out 2).trans rfl; have hcz137_3 : w135.cell? ⟨gb109, 3, none⟩ = some (.string (⟨#[]⟩ : ByteArray)) := (blk_cell BK109.out 3).trans rfl; have hcz137_4 : w135.cell? ⟨gb109, 4, none⟩ = some (.string (⟨#[]⟩ : ByteArray)) := (blk_cell BK109.out 4).trans rfl; have hcz137_5 : w135.cell? ⟨gb109, 5, none⟩ = some (.int .i64 0) := (blk_cell BK109.out 5).trans rfl; have hcz137_6 : w135.cell? ⟨gb109, 6, none⟩ = some (.int .i64 0) := (blk_cell BK109.out 6).trans rfl; have hcz137_7 : w135.cell? ⟨gb109, 7, none⟩ = some (.int .i64 0) := (blk_cell BK109.out 7).trans rfl; have hfz137_0 := blk_frozen BK109.out 0; have hfz137_1 := blk_frozen BK109.out 1; have hfz137_2 := blk_frozen BK109.out 2; have hfz137_3 := blk_frozen BK109.out 3; have hfz137_4 := blk_frozen BK109.out 4; have hfz137_5 := blk_frozen BK109.out 5; have hfz137_6 := blk_frozen BK109.out 6; have hfz137_7 := blk_frozen BK109.out 7; have hcz138_0 : w135.cell? ⟨gb101, 0, none⟩ = some (.slice (some ad108) l0_0.length c0_0) := (blk_cell BK101.out 0).trans rfl; have hcz138_1 : w135.cell? ⟨gb101, 1, none⟩ = some (.slice A0_1 l0_1.length c0_1) := (blk_cell BK101.out 1).trans rfl; have hcz138_2 : w135.cell? ⟨gb101, 2, none⟩ = some (.slice A0_2 l0_2.length c0_2) := (blk_cell BK101.out 2).trans rfl; have hcz138_3 : w135.cell? ⟨gb101, 3, none⟩ = some (.int .i64 a0_3) := (blk_cell BK101.out 3).trans rfl; have hfz138_0 := blk_frozen BK101.out 0; have hfz138_1 := blk_frozen BK101.out 1; have hfz138_2 := blk_frozen BK101.out 2; have hfz138_3 := blk_frozen BK101.out 3))
                   go_ret
                   exact ⟨by first | rfl | (simp [errW_none, errW_some] <;> rfl) | (simp only [← hji27]; first | rfl | (simp [errW_none, errW_some] <;> rfl)) | (simp [*, errW_none, errW_some] <;> rfl), by repeat (first | (with_reducible first | exact HB.out | apply lA | apply lN | apply lD | refine lS ?_ GE101.out | refine lS ?_ GE109.out) | exact HB.out)⟩
                 ·replace c127 := Bool.eq_false_iff.mpr c127
                  subst c127
                  have H1 : (some false) = some r := by rw [if_neg (show ¬ (false = true) by decide)] at H; exact H
                  clear H
                  have H := H1
                  clear H1
                  obtain rfl := Option.some.inj H
                  have hcz139_0 : wc.cell? ⟨gb101, 0, none⟩ = some (.slice A0_0 l0_0.length c0_0) := (blk_cell BK101.out 0).trans rfl
                  have hcz139_1 : wc.cell? ⟨gb101, 1, none⟩ = some (.slice A0_1 l0_1.length c0_1) := (blk_cell BK101.out 1).trans rfl
                  have hcz139_2 : wc.cell? ⟨gb101, 2, none⟩ = some (.slice A0_2 l0_2.length c0_2) := (blk_cell BK101.out 2).trans rfl
                  have hcz139_3 : wc.cell? ⟨gb101, 3, none⟩ = some (.int .i64 a0_3) := (blk_cell BK101.out 3).trans rfl
                  have hfz139_0 := blk_frozen BK101.out 0
                  have hfz139_1 := blk_frozen BK101.out 1
                  have hfz139_2 := blk_frozen BK101.out 2
                  have hfz139_3 := blk_frozen BK101.out 3
                  have p108 : 0 ≤ (((rd_T52 t104 (ji27)).place) : Int) := of_decide_eq_true (by first | (with_reducible assumption) | assumption)
                  have q108 : ((rd_T52 t104 (ji27)).place) < (l0_0.length : Int) := of_decide_eq_true (by first | (with_reducible assumption) | assumption)
                  obtain ⟨ad108, e108, hx108_0, hx108_1, hx108_2, hx108_3, hx108_4, hx108_5, hx108_6, hx108_7⟩ := at_T30 HR0_0.out ((rd_T52 t104 (ji27)).place) p108 q108
                  cases e108
                  replace hx108_0 := (HB.out.cell (blt_ hx108_0)).trans hx108_0
                  replace hx108_1 := (HB.out.cell (blt_ hx108_1)).trans hx108_1
                  replace hx108_2 := (HB.out.cell (blt_ hx108_2)).trans hx108_2
                  replace hx108_3 := (HB.out.cell (blt_ hx108_3)).trans hx108_3
                  replace hx108_4 := (HB.out.cell (blt_ hx108_4)).trans hx108_4
                  replace hx108_5 := (HB.out.cell (blt_ hx108_5)).trans hx108_5
                  replace hx108_6 := (HB.out.cell (blt_ hx108_6)).trans hx108_6
                  replace hx108_7 := (HB.out.cell (blt_ hx108_7)).trans hx108_7
                  replace p108 := eq_true p108
                  replace q108 := eq_true q108
                  go_wp2_with (first | ((with_reducible refine gate_dst (N := 6) rfl ?_); (try (refine gate_guard (by rfl) ?_; dsimp only)); refine box_event ?hg (N := 6) ?hd (cs := #[.int .i64 0, .string (⟨#[]⟩ : ByteArray), .string (⟨#[]⟩ : ByteArray), .string (⟨#[]⟩ : ByteArray), .string (⟨#[]⟩ : ByteArray), .int .i64 0, .int .i64 0, .int .i64 0]) (t := 30) ?hr ?_; (case hd => rfl); (case hg => rfl); (case hr => first | (go_simp; done) | (go_simp; rfl)); intro gb109 hg w140 hbox hb; replace HR107_1 := am (Kd.C_below (by repeat (first | (with_reducible exact HR107_1.out) | (with_reducible refine Kd.C_alloc ?_ _) | (with_reducible refine Kd.C_drewN ?_ _) | (with_reducible refine Kd.C_drew ?_) | exact HR107_1.out)) hb); have BK109 := am (hbox); have GW109 := am ((by rw [hg]; exact (below_size (by repeat (first | (with_reducible first | exact HB.out | apply lA | apply lN | apply lD | refine lS ?_ GE101.out) | exact HB.out))) : w.heap.size ≤ gb109)); have GE109 := am ((by rw [hg]; exact (below_size (by repeat (first | (with_reducible first | exact HB.out | apply lA | apply lN | apply lD | refine lS ?_ GE101.out) | exact HB.out))) : w.heap.size ≤ gb109)); replace HB := am (below_step (by repeat (first | (with_reducible first | exact HB.out | apply lA | apply lN | apply lD | refine lS ?_ GE101.out) | exact HB.out)) hb); have NB101_109 := am ((by rw [hg]; exact Nat.ne_of_lt (blk_lt (g := gb101) (o := .cells #[.slice (some ad108) l0_0.length c0_0, .slice A0_1 l0_1.length c0_1, .slice A0_2 l0_2.length c0_2, .int .i64 a0_3] 43 (0, 0)) (by (with_reducible repeat (first | refine bN ?_ _ | refine bD ?_ | refine bA ?_ _)); exact BK101.out)) : gb101 ≠ gb109)); have NB109_101 := am ((by rw [hg]; exact Nat.ne_of_gt (blk_lt (g := gb101) (o := .cells #[.slice (some ad108) l0_0.length c0_0, .slice A0_1 l0_1.length c0_1, .slice A0_2 l0_2.length c0_2, .int .i64 a0_3] 43 (0, 0)) (by (with_reducible repeat (first | refine bN ?_ _ | refine bD ?_ | refine bA ?_ _)); exact BK101.out)) : gb109 ≠ gb101)); replace BK101 := am (blk_below (g := gb101) (o := .cells #[.slice (some ad108) l0_0.length c0_0, .slice A0_1 l0_1.length c0_1, .slice A0_2 l0_2.length c0_2, .int .i64 a0_3] 43 (0, 0)) (by (with_reducible repeat (first | refine bN ?_ _ | refine bD ?_ | refine bA ?_ _)); exact BK101.out) hb); clear hb hbox hg; have hnb141 := NB109_101.out; have hnc141 := NB101_109.out; have hcz142_0 : w140.cell? ⟨gb109, 0, none⟩ = some (.int .i64 0) := (blk_cell BK109.out 0).trans rfl; have hcz142_1 : w140.cell? ⟨gb109, 1, none⟩ = some (.string (⟨#[]⟩ : ByteArray)) := (blk_cell BK109.out 1).trans rfl; have hcz142_2 : w140.cell? ⟨gb109, 2, none⟩ = some (.string (⟨#[]⟩ : ByteArray)) := (blk_cell BK109.out 2).trans rfl; have hcz142_3 : w140.cell? ⟨gb109, 3, none⟩ = some (.string (⟨#[]⟩ : ByteArray)) := (blk_cell BK109.out 3).trans rfl; have hcz142_4 : w140.cell? ⟨gb109, 4, none⟩ = some (.string (⟨#[]⟩ : ByteArray)) := (blk_cell BK109.out 4).trans rfl; have hcz142_5 : w140.cell? ⟨gb109, 5, none⟩ = some (.int .i64 0) := (blk_cell BK109.out 5).trans rfl; have hcz142_6 : w140.cell? ⟨gb109, 6, none⟩ = some (.int .i64 0) := (blk_cell BK109.out 6).trans rfl; have hcz142_7 : w140.cell? ⟨gb109, 7, none⟩ = some (.int .i64 0) := (blk_cell BK109.out 7).trans rfl; have hfz142_0 := blk_frozen BK109.out 0; have hfz142_1 := blk_frozen BK109.out 1; have hfz142_2 := blk_frozen BK109.out 2; have hfz142_3 := blk_frozen BK109.out 3; have hfz142_4 := blk_frozen BK109.out 4; have hfz142_5 := blk_frozen BK109.out 5; have hfz142_6 := blk_frozen BK109.out 6; have hfz142_7 := blk_frozen BK109.out 7; have hcz143_0 : w140.cell? ⟨gb101, 0, none⟩ = some (.slice (some ad108) l0_0.length c0_0) := (blk_cell BK101.out 0).trans rfl; have hcz143_1 : w140.cell? ⟨gb101, 1, none⟩ = some (.slice A0_1 l0_1.length c0_1) := (blk_cell BK101.out 1).trans rfl; have hcz143_2 : w140.cell? ⟨gb101, 2, none⟩ = some (.slice A0_2 l0_2.length c0_2) := (blk_cell BK101.out 2).trans rfl; have hcz143_3 : w140.cell? ⟨gb101, 3, none⟩ = some (.int .i64 a0_3) := (blk_cell BK101.out 3).trans rfl; have hfz143_0 := blk_frozen BK101.out 0; have hfz143_1 := blk_frozen BK101.out 1; have hfz143_2 := blk_frozen BK101.out 2; have hfz143_3 := blk_frozen BK101.out 3))
                  go_ret
                  exact ⟨by first | rfl | (simp [errW_none, errW_some] <;> rfl) | (simp only [← hji27]; first | rfl | (simp [errW_none, errW_some] <;> rfl)) | (simp [*, errW_none, errW_some] <;> rfl), by repeat (first | (with_reducible first | exact HB.out | apply lA | apply lN | apply lD | refine lS ?_ GE101.out | refine lS ?_ GE109.out) | exact HB.out)⟩
              ·rw [if_neg c36] at H
               exact absurd H (by simp)
             ·rw [if_neg c35] at H
              exact absurd H (by simp)
         ·rw [if_neg c29] at H
          exact absurd H (by simp)
        ·rw [if_neg c28] at H
         exact absurd H (by simp)
 ·replace c4 := Bool.eq_false_iff.mpr c4
  subst c4
  have H1 : (some t102) = some r := by rw [if_neg (show ¬ (false = true) by decide)] at H; exact H
  clear H
  have H := H1
  clear H1
  obtain rfl := Option.some.inj H
  go_enter Try.func9, Try.ntmps9
  go_wp2_with (first | ((with_reducible refine gate_dst (N := 1) rfl ?_); (try (refine gate_guard (by rfl) ?_; dsimp only)); refine box_event ?hg (N := 1) ?hd (cs := #[.slice A0_0 l0_0.length c0_0, .slice A0_1 l0_1.length c0_1, .slice A0_2 l0_2.length c0_2, .int .i64 a0_3]) (t := 43) ?hr ?_; (case hd => rfl); (case hg => rfl); (case hr => first | (go_simp; done) | (go_simp; rfl)); intro gb101 hg w144 hbox hb; have BK101 := am (hbox); have GW101 := am ((by rw [hg]; exact (below_size (by repeat (first | (with_reducible first | exact HB.out | apply lA | apply lN | apply lD) | exact HB.out))) : w.heap.size ≤ gb101)); have GE101 := am ((by rw [hg]; exact (below_size (by repeat (first | (with_reducible first | exact HB.out | apply lA | apply lN | apply lD) | exact HB.out))) : w.heap.size ≤ gb101)); replace HB := am (below_step (by repeat (first | (with_reducible first | exact HB.out | apply lA | apply lN | apply lD) | exact HB.out)) hb); clear hb hbox hg) | ((with_reducible refine gate_callee (f := 33) rfl ?_); refine goesL_ (some 8) rfl rfl Try.func33 (by kernel_rfl) rfl #[] rfl (by (try simp only [List.map_toArray, List.map_cons, List.map_nil]); first | done | rfl | (simp only [List.length_drop, List.length_take]; rfl)) ?_; (with_reducible refine (lambrequinlaw22_shown.calls  t102 _ A2.out).mono ?_); rintro e w145 ⟨rfl, hb⟩; refine ⟨_, rfl, ?_⟩; replace BK101 := am (blk_below (g := gb101) (o := .cells #[.slice A0_0 l0_0.length c0_0, .slice A0_1 l0_1.length c0_1, .slice A0_2 l0_2.length c0_2, .int .i64 a0_3] 43 (0, 0)) (by (with_reducible repeat (first | refine bN ?_ _ | refine bD ?_ | refine bA ?_ _)); exact BK101.out) hb); replace HB := am (below_step (by repeat (first | (with_reducible first | exact HB.out | apply lA | apply lN | apply lD | refine lS ?_ GE101.out) | exact HB.out)) hb); (try clear hb); (try clear hb2); (try clear hk); (try clear hi); have hcz146_0 : w145.cell? ⟨gb101, 0, none⟩ = some (.slice A0_0 l0_0.length c0_0) := (blk_cell BK101.out 0).trans rfl; have hcz146_1 : w145.cell? ⟨gb101, 1, none⟩ = some (.slice A0_1 l0_1.length c0_1) := (blk_cell BK101.out 1).trans rfl; have hcz146_2 : w145.cell? ⟨gb101, 2, none⟩ = some (.slice A0_2 l0_2.length c0_2) := (blk_cell BK101.out 2).trans rfl; have hcz146_3 : w145.cell? ⟨gb101, 3, none⟩ = some (.int .i64 a0_3) := (blk_cell BK101.out 3).trans rfl; have hfz146_0 := blk_frozen BK101.out 0; have hfz146_1 := blk_frozen BK101.out 1; have hfz146_2 := blk_frozen BK101.out 2; have hfz146_3 := blk_frozen BK101.out 3) | ((with_reducible refine gate_callee (f := 34) rfl ?_); refine goesL_ (some 10) rfl rfl Try.func34 (by kernel_rfl) rfl #[.agg #[.slice A0_0 l0_0.length c0_0, .slice A0_1 l0_1.length c0_1, .slice A0_2 l0_2.length c0_2, .int .i64 a0_3]] rfl (by (try simp only [List.map_toArray, List.map_cons, List.map_nil]); first | done | rfl | (simp only [List.length_drop, List.length_take]; rfl)) ?_; (with_reducible refine (lambrequinlaw22_few.calls _ _ l0_0 _ _ l0_1 _ _ l0_2 a0_3 false _ ?side1 ?side2 ?side3 ?side4 ?side5 ?side6 A3.out).mono ?_); (case side1 => repeat (first | exact (Kd.C_below HR0_0.out HB.out) | (with_reducible refine Kd.C_alloc ?_ _) | (with_reducible refine Kd.C_drewN ?_ _) | (with_reducible refine Kd.C_drew ?_))); (case side2 => exact HC0_0.out); (case side3 => repeat (first | exact (Kd.C_below HR0_1.out HB.out) | (with_reducible refine Kd.C_alloc ?_ _) | (with_reducible refine Kd.C_drewN ?_ _) | (with_reducible refine Kd.C_drew ?_))); (case side4 => exact HC0_1.out); (case side5 => repeat (first | exact (Kd.C_below HR0_2.out HB.out) | (with_reducible refine Kd.C_alloc ?_ _) | (with_reducible refine Kd.C_drewN ?_ _) | (with_reducible refine Kd.C_drew ?_))); (case side6 => exact HC0_2.out); rintro e w147 ⟨rfl, hb⟩; refine ⟨_, rfl, ?_⟩; replace BK101 := am (blk_below (g := gb101) (o := .cells #[.slice A0_0 l0_0.length c0_0, .slice A0_1 l0_1.length c0_1, .slice A0_2 l0_2.length c0_2, .int .i64 a0_3] 43 (0, 0)) (by (with_reducible repeat (first | refine bN ?_ _ | refine bD ?_ | refine bA ?_ _)); exact BK101.out) hb); replace HB := am (below_step (by repeat (first | (with_reducible first | exact HB.out | apply lA | apply lN | apply lD | refine lS ?_ GE101.out) | exact HB.out)) hb); (try clear hb); (try clear hb2); (try clear hk); (try clear hi)))
  go_ret
  exact ⟨by first | rfl | (simp [errW_none, errW_some] <;> rfl) | (simp [*, errW_none, errW_some] <;> rfl), by repeat (first | (with_reducible first | exact HB.out | apply lA | apply lN | apply lD | refine lS ?_ GE101.out) | exact HB.out)⟩
end Go.Proofs.Ytnepgcbgkhikkaa.H
/- InterpEnds: a run ends at a return, or where it leads out, or with as many visits as are allowed; without statements, or with none allowed, it has none. Conditions: the statement's own. -/
namespace Go.Proofs.Ytnepgcbgkhikkaa.H
open Go.RowKit Go.Proofs.YtnepgcbgkhikkaaW.PrintWords
set_option linter.unusedVariables false
set_option linter.unusedSimpArgs false
theorem InterpEnds_pure (x0 : Script) (n1 : x0.l.length ≤ 9223372036854775807) (n2 : x0.ins.length ≤ 9223372036854775807) (n3 : x0.ora.length ≤ 9223372036854775807) : ∃ k, lambrequinlaw22_InterpEnds.f k x0.l x0.ins x0.ora x0.most = some true := by
  obtain ⟨l, ins, ora, most⟩ := x0
  refine Ev.rounds (g := fun k => lambrequinlaw22_InterpEnds.f k l ins ora most) ?_
  unfold lambrequinlaw22_InterpEnds.f
  refine Ev.pure shown22 (Ev.pure (few_eq l ins ora most) ?_)
  by_cases hf : l.length ≤ 25 ∧ most ≤ 60
  case neg => exact Ev.neg (by simpa using hf) (Ev.now _)
  refine Ev.pos (by simpa using hf) ?_
  obtain ⟨h25, h60⟩ := hf
  obtain ⟨m, hr, hin, hm, hout⟩ := Run_spec l ins ora most (by omega)
  refine Ev.pure hr ?_
  rw [mostV_small (by omega)] at hm hout
  have hvl := visN_len l (s0 l ins ora) m
  have fin : (m : Int) ≤ 0 → Ev (fun k => lambrequinlaw22_InterpEnds.j0 k true (visN l (s0 l ins ora) m) true l ins ora most) true := by
    intro h
    refine Ev.step (fun k => by rw [lambrequinlaw22_InterpEnds.j0]) (Ev.pos rfl (Ev.pos rfl (Ev.some ?_)))
    rw [hvl]; simp; omega
  by_cases hl0 : (l.length : Int) = 0
  · refine Ev.pos hl0 (fin ?_)
    rcases Nat.eq_zero_or_pos m with h | h
    · omega
    · have := hin 0 h; unfold inS at this; omega
  refine Ev.neg hl0 ?_
  by_cases hm0 : most ≤ 0
  · rw [decide_eq_true hm0]
    exact fin (by omega)
  rw [decide_eq_false hm0]
  have hm1 : 1 ≤ m := by
    rcases hout with h | h
    · rcases Nat.eq_zero_or_pos m with e | e
      · subst e
        exact absurd (show inS l (s0 l ins ora) from ⟨Int.le_refl 0, by show (0 : Int) < _; omega⟩) h
      · exact e
    · omega
  refine Ev.step (fun k => by rw [lambrequinlaw22_InterpEnds.j0]) (Ev.neg (by simp) ?_)
  refine Ev.neg (by rw [hvl]; omega) ?_
  by_cases hmm : (m : Int) = most
  · refine Ev.step (fun k => by rw [lambrequinlaw22_InterpEnds.j1]) (Ev.pos (by rw [hvl]; simpa using hmm) (Ev.pos rfl (Ev.some ?_)))
    rw [hvl]; simp; omega
  refine Ev.step (fun k => by rw [lambrequinlaw22_InterpEnds.j1]) (Ev.neg (by rw [hvl]; simpa using hmm) ?_)
  have hw : wrap64 (((visN l (s0 l ins ora) m).length : Int) - 1) = ((m - 1 : Nat) : Int) := by rw [hvl]; unfold wrap64; omega
  rw [hw]
  refine Ev.pos (by omega) (Ev.pos (by rw [hvl]; omega) ?_)
  rw [vis_at (show m - 1 < m by omega)]
  have hI := hin (m - 1) (by omega)
  obtain ⟨st, e, hmem, hnx⟩ := inS_at hI
  have hno : ¬ inS l (sN l (s0 l ins ora) m) := by
    rcases hout with h | h
    · exact h
    · omega
  have hs : sN l (s0 l ins ora) m = nextS l (sN l (s0 l ins ora) (m - 1)) := by
    conv => lhs; rw [show m = (m - 1) + 1 by omega]
    rfl
  rw [hs, hnx] at hno
  generalize hS : sN l (s0 l ins ora) (m - 1) = s at hI e hno hs hnx
  have hpl : (visS s).place = s.n := rfl
  rw [hpl]
  obtain ⟨i0, i1⟩ := hI
  have hst := stmt_at ⟨i0, i1⟩ e
  refine Ev.neg (by omega) ?_
  rw [decide_eq_false (by omega)]
  refine Ev.step (fun k => by rw [lambrequinlaw22_InterpEnds.j2]) (Ev.neg (by simp) (Ev.pos i0 (Ev.pos i1 ?_)))
  rw [hst]
  simp only [inS, stepN] at hno
  have hnn : ((s.n.toNat : Nat) : Int) = s.n := by omega
  by_cases k7 : st.kind = 7
  · refine Ev.pos k7 ?_
    rw [if_pos k7] at hno
    by_cases a0 : st.a < 0
    · exact Ev.pos a0 (Ev.pos rfl (Ev.now _))
    refine Ev.neg a0 ?_
    by_cases a1 : st.a ≥ (l.length : Int)
    · exact Ev.pos a1 (Ev.pos rfl (Ev.now _))
    refine Ev.neg a1 ?_
    by_cases b0 : st.b < 0
    · exact Ev.pos b0 (Ev.pos rfl (Ev.now _))
    refine Ev.neg b0 (Ev.pos rfl ?_)
    by_cases b1 : st.b ≥ (l.length : Int)
    · exact Ev.pos b1 (Ev.now _)
    exfalso
    split at hno <;> omega
  refine Ev.neg k7 ?_
  rw [if_neg k7] at hno
  by_cases k8 : st.kind = 8
  · refine Ev.pos k8 ?_
    rw [if_pos k8] at hno
    by_cases a0 : st.a < 0
    · exact Ev.pos a0 (Ev.pos rfl (Ev.now _))
    refine Ev.neg a0 ?_
    by_cases a1 : st.a ≥ (l.length : Int)
    · exact Ev.pos a1 (Ev.pos rfl (Ev.now _))
    omega
  refine Ev.neg k8 (Ev.pos rfl ?_)
  rw [if_neg k8] at hno
  by_cases k9 : st.kind = 9
  · by_cases c : s.n = wrap64 ((l.length : Int) - 1)
    · exact Ev.pos c (Ev.now _)
    · exact Ev.neg c (Ev.some (by simp [k9]))
  rw [if_neg k9] at hno
  refine Ev.pos ?_ (Ev.now _)
  unfold wrap64 at hno ⊢
  omega
theorem InterpEnds_walk (w : World) (x0 : Script) (A0_0 : Option Addr) (c0_0 : Nat) (l0_0 : x0.l.length ≤ c0_0) (g0_0 : Kd.C k30 w A0_0 x0.l.length x0.l) (A0_1 : Option Addr) (c0_1 : Nat) (l0_1 : x0.ins.length ≤ c0_1) (g0_1 : Kd.C (Kd.int .i64) w A0_1 x0.ins.length x0.ins) (A0_2 : Option Addr) (c0_2 : Nat) (l0_2 : x0.ora.length ≤ c0_2) (g0_2 : Kd.C Kd.bool w A0_2 x0.ora.length x0.ora) :
    Calls Try.prog 9 #[.agg #[.slice A0_0 x0.l.length c0_0, .slice A0_1 x0.ins.length c0_1, .slice A0_2 x0.ora.length c0_2, .int .i64 x0.most]] w fun e w' => e = .returned (.bool true) ∧ Below w.heap.size w w' := by
  obtain ⟨k, h⟩ := InterpEnds_pure x0 g0_0.2.1 g0_1.2.1 g0_2.2.1
  exact (lambrequinlaw22_InterpEnds.calls k A0_0 c0_0 x0.l A0_1 c0_1 x0.ins A0_2 c0_2 x0.ora x0.most true w g0_0 l0_0 g0_1 l0_1 g0_2 l0_2 h).mono (fun e w' h' => ⟨h'.1, h'.2⟩)
end Go.Proofs.Ytnepgcbgkhikkaa.H
namespace Go.Proofs.Ytnepgcbgkhikkaa.H
open Go.RowKit Go.Proofs.YtnepgcbgkhikkaaW.PrintWords
set_option linter.unusedVariables false
/-- no longer than the model's longest text -/
def bStr (s : ByteArray) : Prop := s.size ≤ 9223372036854775807
/-- What an argument of a type holds, read as the kind kd; B: how long its texts are. -/
structure Opens {α : Type} (P : Program) (t : TypeId) (kd : Kd α) (B : α → Prop) : Prop where
  size : P.cellsOf t = kd.sz
  opened : ∀ {H : Type} {enc : TypeId × Value → H} {w : World} {base : Nat} {sp : Nat → Bool} {held : Bool} {fuel : Nat} {cs : List Value} {x : DataW H × List MemPlace},
    DataW.trod enc P w base sp held fuel t cs = some x → ∃ a, kd.K w a cs ∧ B a
theorem Opens.as {α : Type} {P : Program} {t : TypeId} {kd : Kd α} {B B' : α → Prop} (h : Opens P t kd B) (hB : ∀ a, B a → B' a) : Opens P t kd B' :=
  ⟨h.size, fun hx => by obtain ⟨a, ha, hb⟩ := h.opened hx; exact ⟨a, ha, hB a hb⟩⟩
theorem opens_bool {P : Program} {t : TypeId} (ht : P.underlying t = some .bool) (hs : P.cellsOf t = 1) : Opens P t Kd.bool (fun _ => True) :=
  ⟨hs, fun h => by obtain ⟨b, rfl, _⟩ := DataW.trod_bool ht h; exact ⟨b, rfl, trivial⟩⟩
theorem opens_int {P : Program} {t : TypeId} {k : IntKind} (ht : P.underlying t = some (.int k)) (hs : P.cellsOf t = 1) : Opens P t (Kd.int k) (fun _ => True) :=
  ⟨hs, fun h => by obtain ⟨b, rfl, _⟩ := DataW.trod_int ht h; exact ⟨b, rfl, trivial⟩⟩
theorem opens_string {P : Program} {t : TypeId} (ht : P.underlying t = some .string) (hs : P.cellsOf t = 1) : Opens P t Kd.string bStr :=
  ⟨hs, fun h => by obtain ⟨b, rfl, _, hb⟩ := DataW.trod_string ht h; exact ⟨b, rfl, hb⟩⟩
theorem list_of {α : Type} (p : Nat → α → Prop) : ∀ n : Nat, (∀ i, i < n → ∃ y, p i y) → ∃ l : List α, l.length = n ∧ ∀ i y, l[i]? = some y → p i y
  | 0, _ => ⟨[], rfl, fun i y h => by simp at h⟩
  | n + 1, h => by
    obtain ⟨l, hl, hp⟩ := list_of p n (fun i hi => h i (by omega))
    obtain ⟨y, hy⟩ := h n (by omega)
    refine ⟨l ++ [y], by simp [hl], fun i z hz => ?_⟩
    rcases Nat.lt_trichotomy i n with hi | rfl | hi
    · rw [List.getElem?_append_left (by omega)] at hz
      exact hp i z hz
    · rw [List.getElem?_append_right (by omega), hl, Nat.sub_self] at hz
      simp at hz
      subst hz
      exact hy
    · rw [List.getElem?_eq_none (by simp [hl]; omega)] at hz
      simp at hz
theorem addr_add_add (a : Addr) (i j : Nat) : (a.add i).add j = a.add (i + j) := by
  unfold Addr.add
  by_cases hi : i = 0 <;> by_cases hj : j = 0 <;> simp [hi, hj, Nat.add_assoc]
theorem opens_slice {α : Type} {P : Program} {t e : TypeId} {kd : Kd α} {B : α → Prop} (ht : P.underlying t = some (.slice e)) (hs : P.cellsOf t = 1) (he : Opens P e kd B) (q : Nat) : Opens P t (Kd.slice q kd) (fun l => l.length ≤ 9223372036854775807 ∧ ∀ y ∈ l, B y) := by
  refine ⟨hs, fun {H enc w base sp held fuel cs x} h => ?_⟩
  rcases DataW.trod_slice ht h with ⟨rfl, _⟩ | ⟨a, len, cap, elems, rest, n, _, rfl, _, _, hl, hm, hlen, hel, _⟩
  · exact ⟨[], ⟨none, 0, rfl, Nat.le_refl _, rfl, by simp, fun h => absurd h (by simp)⟩, by simp, by simp⟩
  · obtain ⟨l, hll, hp⟩ := list_of (fun i y => B y ∧ ∃ c, c.length = kd.sz ∧ kd.K w y c ∧ ∀ j u, c[j]? = some u → w.cell? (a.add (i * kd.sz + j)) = some u) len (fun i hi => by
      have h1 := hel i hi
      rw [List.getElem?_eq_getElem (by omega)] at h1
      obtain ⟨cs', h2, h3⟩ := Option.bind_eq_some_iff.1 h1
      obtain ⟨y, hy, hby⟩ := he.opened h3
      obtain ⟨_, h4, h5⟩ := World.cells?_some h2
      refine ⟨y, hby, cs', by rw [h4, he.size], hy, fun j u hu => ?_⟩
      have hj : j < P.cellsOf e := by rw [← h4]; exact (List.getElem?_eq_some_iff.1 hu).1
      rw [← addr_add_add, ← he.size, h5 j hj, hu])
    subst hll
    refine ⟨l, ⟨some a, cap, rfl, hl, rfl, Nat.le_trans hl (Nat.le_trans hm (by decide)), fun _ => ⟨a, rfl, fun j p hj => (hp j p hj).2⟩⟩, Nat.le_trans hl (Nat.le_trans hm (by decide)), fun y hy => ?_⟩
    obtain ⟨i, hi, rfl⟩ := List.mem_iff_getElem.1 hy
    exact (hp i _ (List.getElem?_eq_getElem hi)).1
theorem opens_iso {α β : Type} {P : Program} {t : TypeId} {kd : Kd α} {B : α → Prop} (h : Opens P t kd B) (f : β → α) (hf : ∀ b, ∃ a, f a = b) : Opens P t (Kd.iso kd f) (fun b => B (f b)) :=
  ⟨h.size, fun hx => by obtain ⟨a, ha⟩ := h.opened hx; obtain ⟨b, rfl⟩ := hf a; exact ⟨b, ha⟩⟩
/-- The fields of a struct from the offset o on. -/
structure OpensL {α : Type} (P : Program) (fs : List Field) (o : Nat) (kd : Kd α) (B : α → Prop) : Prop where
  opened : ∀ {H : Type} {enc : TypeId × Value → H} {w : World} {base : Nat} {sp : Nat → Bool} {held : Bool} {fuel : Nat} (cs : List Value), cs.length = o + kd.sz →
    (∀ f ∈ fs, ∃ x, DataW.trod enc P w base sp held fuel f.type ((cs.drop f.offset).take (P.cellsOf f.type)) = some x) → ∃ a, kd.K w a (cs.drop o) ∧ B a
theorem opensL_one {α : Type} {P : Program} {f : Field} {o : Nat} {kd : Kd α} {B : α → Prop} (ho : f.offset = o) (h : Opens P f.type kd B) : OpensL P [f] o kd B := by
  refine ⟨fun {H enc w base sp held fuel} cs hcs hf => ?_⟩
  obtain ⟨x, hx⟩ := hf f (by simp)
  obtain ⟨a, ha, hb⟩ := h.opened hx
  rw [ho, h.size, List.take_of_length_le (by simp [hcs])] at ha
  exact ⟨a, ha, hb⟩
theorem opensL_cons {α β : Type} {P : Program} {f : Field} {fs : List Field} {o : Nat} {kd : Kd α} {kd' : Kd β} {B : α → Prop} {B' : β → Prop} (ho : f.offset = o) (h : Opens P f.type kd B) (hr : OpensL P fs (o + kd.sz) kd' B') : OpensL P (f :: fs) o (Kd.pair kd kd') (fun p => B p.1 ∧ B' p.2) := by
  refine ⟨fun {H enc w base sp held fuel} cs hcs hf => ?_⟩
  obtain ⟨x, hx⟩ := hf f (by simp)
  obtain ⟨a, ha, hba⟩ := h.opened hx
  have hcs' : cs.length = o + kd.sz + kd'.sz := by rw [hcs]; show o + (kd.sz + kd'.sz) = _; omega
  obtain ⟨b, hb, hbb⟩ := hr.opened cs hcs' (fun g hg => hf g (by simp [hg]))
  rw [ho, h.size] at ha
  refine ⟨(a, b), ⟨(cs.drop o).take kd.sz, (cs.drop (o + kd.sz)), ?_, ha, hb⟩, hba, hbb⟩
  rw [← List.drop_drop, List.take_append_drop]
theorem opens_struct {α : Type} {P : Program} {t : TypeId} {fs : List Field} {kd : Kd α} {B : α → Prop} (ht : P.underlying t = some (.struct ⟨fs⟩)) (hs : P.cellsOf t = kd.sz) (h : OpensL P fs 0 kd B) : Opens P t kd B := by
  refine ⟨hs, fun {H enc w base sp held fuel cs x} hx => ?_⟩
  obtain ⟨xs, n, _, _, hl, hlen, hf⟩ := DataW.trod_struct ht hx
  obtain ⟨a, ha, hb⟩ := h.opened (enc := enc) (w := w) (base := base) (sp := sp) (held := held) (fuel := n) cs (by rw [hl, hs]; omega) (fun f hfm => by
    obtain ⟨i, hi, rfl⟩ := List.mem_iff_getElem.1 hfm
    have h1 := hf i fs[i] (by simp [hi])
    exact ⟨xs[i]'(by rw [hlen]; simpa using hi), by rw [h1, List.getElem?_eq_getElem]⟩)
  exact ⟨a, by simpa using ha, hb⟩
theorem opens_isoL {α β : Type} {P : Program} {fs : List Field} {o : Nat} {kd : Kd α} {B : α → Prop} (h : OpensL P fs o kd B) (f : β → α) (hf : ∀ b, ∃ a, f a = b) : OpensL P fs o (Kd.iso kd f) (fun b => B (f b)) := by
  refine ⟨fun {H enc w base sp held fuel} cs hcs hx => ?_⟩
  obtain ⟨a, ha⟩ := h.opened cs hcs hx
  obtain ⟨b, rfl⟩ := hf a
  exact ⟨b, ha⟩
/-- an argument's value, opened -/
theorem Opens.argB {α : Type} {P : Program} {t : TypeId} {kd : Kd α} {B : α → Prop} (h : Opens P t kd B) {H : Type} {enc : TypeId × Value → H} {w : World} {base : Nat} {sp : Nat → Bool} {held : Bool} {v : Value} {d : DataW H} {ps : List MemPlace}
    (hv : DataW.Trod enc P w base sp held t v d ps) : ∃ a, kd.K w a v.cells.toList ∧ B a := by
  obtain ⟨fuel, hf⟩ := hv
  exact h.opened hf
theorem Opens.arg {α : Type} {P : Program} {t : TypeId} {kd : Kd α} {B : α → Prop} (h : Opens P t kd B) {H : Type} {enc : TypeId × Value → H} {w : World} {base : Nat} {sp : Nat → Bool} {held : Bool} {v : Value} {d : DataW H} {ps : List MemPlace}
    (hv : DataW.Trod enc P w base sp held t v d ps) : ∃ a, kd.K w a v.cells.toList := by
  obtain ⟨a, ha, _⟩ := h.argB hv
  exact ⟨a, ha⟩
/-- An argument's row is no longer than its weight allows. -/
theorem sized_row {H : Type} {enc : TypeId × Value → H} {P : Program} {W : World} {base : Nat} {spare : Nat → Bool} {held : Bool} {t e : TypeId} {a : Option Addr} {len cap : Nat} {d : DataW H} {ps : List MemPlace} {ts : List TypeId} {ds : List (DataW H)} {j : Nat}
    (hsz : (DataW.weightsEach P ts ds).all (· ≤ reachBytes) = true) (ht : ts[j]? = some t) (hd : ds[j]? = some d) (hu : P.underlying t = some (.slice e)) {B : Nat} (hB : P.bytesOf e = B)
    (h : DataW.Trod enc P W base spare held t (.slice a len cap) d ps) : len * B ≤ 140737488351232 := by
  obtain ⟨fuel, hf⟩ := h
  rcases DataW.trod_slice hu hf with ⟨hcs, _⟩ | ⟨x, l, c, elems, rest, n, _, hcs, hx, _, hl, _, hlen, _⟩
  · simp [Value.cells] at hcs
    obtain ⟨rfl, rfl, rfl⟩ := hcs
    simp
  · simp [Value.cells] at hcs
    obtain ⟨rfl, rfl, rfl⟩ := hcs
    obtain ⟨rfl, _⟩ := Prod.mk.inj hx
    have z := sized_slice hsz ht hd hu
    rw [hB, List.length_map, List.length_map, hlen] at z
    exact Nat.le_trans (Nat.mul_le_mul_right _ (Nat.le_add_right _ _)) z
def bStmt (x : Stmt) : Prop := True ∧ bStr (x.x) ∧ bStr (x.y) ∧ bStr (x.z) ∧ bStr (x.op) ∧ True ∧ True ∧ True
theorem opens_Stmt : Opens Try.prog 30 k30 bStmt :=
  Opens.as (opens_struct Try.underlying30 (by kernel_rfl) (opens_isoL (opensL_cons rfl (opens_int (by kernel_rfl) (by kernel_rfl)) (opensL_cons rfl (opens_string (by kernel_rfl) (by kernel_rfl)) (opensL_cons rfl (opens_string (by kernel_rfl) (by kernel_rfl)) (opensL_cons rfl (opens_string (by kernel_rfl) (by kernel_rfl)) (opensL_cons rfl (opens_string (by kernel_rfl) (by kernel_rfl)) (opensL_cons rfl (opens_int (by kernel_rfl) (by kernel_rfl)) (opensL_cons rfl (opens_int (by kernel_rfl) (by kernel_rfl)) (opensL_one rfl (opens_int (by kernel_rfl) (by kernel_rfl)))))))))) _ (fun b => ⟨⟨b.1, b.2.1, b.2.2.1, b.2.2.2.1, b.2.2.2.2.1, b.2.2.2.2.2.1, b.2.2.2.2.2.2.1, b.2.2.2.2.2.2.2⟩, rfl⟩))) (fun _ h => h)
def bVar (x : Var) : Prop := bStr (x.name) ∧ True ∧ True ∧ True
theorem opens_Var : Opens Try.prog 54 k54 bVar :=
  Opens.as (opens_struct Try.underlying54 (by kernel_rfl) (opens_isoL (opensL_cons rfl (opens_string (by kernel_rfl) (by kernel_rfl)) (opensL_cons rfl (opens_int (by kernel_rfl) (by kernel_rfl)) (opensL_cons rfl (opens_int (by kernel_rfl) (by kernel_rfl)) (opensL_one rfl (opens_bool (by kernel_rfl) (by kernel_rfl)))))) _ (fun b => ⟨⟨b.1, b.2.1, b.2.2.1, b.2.2.2⟩, rfl⟩))) (fun _ h => h)
def bVisit (x : Visit) : Prop := True ∧ (x.vars.length ≤ 9223372036854775807 ∧ ∀ y ∈ x.vars, bVar (y))
theorem opens_Visit : Opens Try.prog 52 k52 bVisit :=
  Opens.as (opens_struct Try.underlying52 (by kernel_rfl) (opens_isoL (opensL_cons rfl (opens_int (by kernel_rfl) (by kernel_rfl)) (opensL_one rfl (opens_slice (by kernel_rfl) (by kernel_rfl) opens_Var 54))) _ (fun b => ⟨⟨b.1, b.2⟩, rfl⟩))) (fun _ h => h)
def bScript (x : Script) : Prop := (x.l.length ≤ 9223372036854775807 ∧ ∀ y ∈ x.l, bStmt (y)) ∧ (x.ins.length ≤ 9223372036854775807 ∧ ∀ y ∈ x.ins, True) ∧ (x.ora.length ≤ 9223372036854775807 ∧ ∀ y ∈ x.ora, True) ∧ True
theorem opens_Script : Opens Try.prog 43 k43 bScript :=
  Opens.as (opens_struct Try.underlying43 (by kernel_rfl) (opens_isoL (opensL_cons rfl (opens_slice (by kernel_rfl) (by kernel_rfl) opens_Stmt 30) (opensL_cons rfl (opens_slice (by kernel_rfl) (by kernel_rfl) (opens_int (t := 2) (by kernel_rfl) (by kernel_rfl)) 2) (opensL_cons rfl (opens_slice (by kernel_rfl) (by kernel_rfl) (opens_bool (t := 4) (by kernel_rfl) (by kernel_rfl)) 4) (opensL_one rfl (opens_int (by kernel_rfl) (by kernel_rfl)))))) _ (fun b => ⟨⟨b.1, b.2.1, b.2.2.1, b.2.2.2⟩, rfl⟩))) (fun _ h => h)
def bRVar (x : RVar) : Prop := bStr (x.name) ∧ True ∧ True ∧ True
theorem opens_RVar : Opens Try.prog 68 k68 bRVar :=
  Opens.as (opens_struct Try.underlying68 (by kernel_rfl) (opens_isoL (opensL_cons rfl (opens_string (by kernel_rfl) (by kernel_rfl)) (opensL_cons rfl (opens_int (by kernel_rfl) (by kernel_rfl)) (opensL_cons rfl (opens_int (by kernel_rfl) (by kernel_rfl)) (opensL_one rfl (opens_bool (by kernel_rfl) (by kernel_rfl)))))) _ (fun b => ⟨⟨b.1, b.2.1, b.2.2.1, b.2.2.2⟩, rfl⟩))) (fun _ h => h)
def bRVisit (x : RVisit) : Prop := True ∧ (x.vars.length ≤ 9223372036854775807 ∧ ∀ y ∈ x.vars, bRVar (y))
theorem opens_RVisit : Opens Try.prog 67 k67 bRVisit :=
  Opens.as (opens_struct Try.underlying67 (by kernel_rfl) (opens_isoL (opensL_cons rfl (opens_int (by kernel_rfl) (by kernel_rfl)) (opensL_one rfl (opens_slice (by kernel_rfl) (by kernel_rfl) opens_RVar 68))) _ (fun b => ⟨⟨b.1, b.2⟩, rfl⟩))) (fun _ h => h)
def bRState (x : RState) : Prop := True ∧ (x.vars.length ≤ 9223372036854775807 ∧ ∀ y ∈ x.vars, bRVar (y)) ∧ (x.ins.length ≤ 9223372036854775807 ∧ ∀ y ∈ x.ins, True) ∧ (x.ora.length ≤ 9223372036854775807 ∧ ∀ y ∈ x.ora, True)
theorem opens_RState : Opens Try.prog 77 k77 bRState :=
  Opens.as (opens_struct Try.underlying77 (by kernel_rfl) (opens_isoL (opensL_cons rfl (opens_int (by kernel_rfl) (by kernel_rfl)) (opensL_cons rfl (opens_slice (by kernel_rfl) (by kernel_rfl) opens_RVar 68) (opensL_cons rfl (opens_slice (by kernel_rfl) (by kernel_rfl) (opens_int (t := 2) (by kernel_rfl) (by kernel_rfl)) 2) (opensL_one rfl (opens_slice (by kernel_rfl) (by kernel_rfl) (opens_bool (t := 4) (by kernel_rfl) (by kernel_rfl)) 4))))) _ (fun b => ⟨⟨b.1, b.2.1, b.2.2.1, b.2.2.2⟩, rfl⟩))) (fun _ h => h)
end Go.Proofs.Ytnepgcbgkhikkaa.H
namespace Go.Proofs.Ytnepgcbgkhikkaa.interpEnds
open Go.ChangeShapes Go.WideShapes Go.ChangeAt Go.RowKit Go.Proofs.Ytnepgcbgkhikkaa.H Go.Proofs.YtnepgcbgkhikkaaW.PrintWords
open Go.ChangeMaps (open_string shut_string)
set_option linter.unusedVariables false
theorem own : ownKnob Try.prog.godebug = none := by kernel_rfl
theorem laidOut : laidOutB Try.prog = true := by kernel_rfl
set_option maxRecDepth 100000 in
theorem lifted (os : Os) (started : os.Started) (H : Type) (enc : TypeId × Value → H) :
    ReturnsInHanded {} Try.checked os 9 .any (Rows.interpEndsSpec.pre6 enc Try.prog Try.f9 Rows.interpEndsRow.domain false) (Rows.interpEndsSpec.post enc Try.prog Try.f9 false true false false) := by
  refine returnsInHanded_of_change_sized (C := Try.checked) own started (by kernel_rfl) Try.func9
    (ChangeSpec.witness6 (enc := enc) (C := Try.checked) false ⟨#[], #[.agg #[.slice none 0 0, .slice none 0 0, .slice none 0 0, .int .i64 0]], []⟩ 8 (by kernel_rfl) (by kernel_rfl) (by kernel_rfl) (by kernel_rfl)) ?_
  intro W base args ds gs before hval0 hW hcnd hsz0 _
  have hsz : (DataW.weightsEach Try.prog (Try.f9.params.toList ++ Rows.interpEndsSpec.plain.varTypes Try.prog) (ds ++ gs)).all (· ≤ reachBytes) = true := hsz0
  have hval : ∀ (j : Nat) t v, Try.f9.params[j]? = some t → args[j]? = some v → Value.okWide Try.prog W .any base t v := hval0
  have hW' := hW
  obtain ⟨p, q, hA0, hV, rfl, hfz, hnd⟩ := hW
  have hA : DataW.TrodAll enc Try.prog W 0 (fun _ => true) true Try.f9.params.toList args.toList ds p := hA0
  rw [Try.params9] at hA hval hsz
  obtain ⟨v0, vs0, d0, ds0, p0, q0, hargs, rfl, rfl, h0, r0⟩ := trodAll_cons hA
  obtain ⟨rfl, rfl, rfl⟩ := trodAll_nil r0
  obtain rfl : args = #[v0] := by cases args; simp_all
  obtain ⟨rfl, rfl⟩ := trodVars_none hV
  have k0 := h0
  have lt0 : ∀ x ∈ p0, x.block < W.heap.size := by obtain ⟨m, hm⟩ := k0; exact DataW.trod_lt m _ _ _ hm
  obtain ⟨cs0, rfl, -⟩ := okWide_struct Try.underlying43 (hval 0 43 v0 rfl rfl)
  obtain ⟨x0, g0⟩ := opens_Script.arg k0
  obtain ⟨A0_0, c0_0, A0_1, c0_1, A0_2, c0_2, e0, l0_0, g0_0, l0_1, g0_1, l0_2, g0_2⟩ := k43_open g0
  obtain ⟨cl0⟩ := cs0
  obtain rfl : cl0 = _ := e0
  clear hA0 hval0 hsz0 hsz
  refine (InterpEnds_walk W x0 A0_0 c0_0 l0_0 g0_0 A0_1 c0_1 l0_1 g0_1 A0_2 c0_2 l0_2 g0_2).mono fun e W' ⟨he, bel⟩ => ?_
  subst he
  exact ⟨_, rfl, _, _, _, [], _, [], hW', trodAll_mk1 (shut_bool Try.underlying4 _), (trodAll_cons_mk (Below.trod laidOut (by kernel_rfl) (of_decide_eq_true (by kernel_rfl)) k0 bel lt0) trodAll_mk0), rfl, bel.frame _, fun h => by cases h⟩
theorem over : Rows.interpEndsRow.holds Try.pinned (OpenSpec.ofChange Rows.interpEndsSpec) :=
  OpenClaim.holds_of_wide 9 Try.f9 rfl rfl rfl rfl rfl rfl rfl ⟨rfl, rfl, rfl, rfl, rfl⟩ rfl rfl rfl rfl rfl (by kernel_rfl) Try.func9 (by kernel_rfl)
    (of_decide_eq_true (by kernel_rfl)) (by unfold Func.isWrapper; first | (rw [if_pos (by decide +kernel)]; kernel_rfl) | (rw [if_neg (by decide +kernel)]; exact ⟨rfl, rfl⟩))
    (fun os started H enc _ => lifted os started H enc)
theorem proved : Rows.InterpEndsSaid := over
end Go.Proofs.Ytnepgcbgkhikkaa.interpEnds
namespace Go.Proofs.Ytnepgcbgkhikkaa
theorem interpEnds_holds : Rows.InterpEndsSaid := interpEnds.proved
#print axioms interpEnds_holds
end Go.Proofs.Ytnepgcbgkhikkaa

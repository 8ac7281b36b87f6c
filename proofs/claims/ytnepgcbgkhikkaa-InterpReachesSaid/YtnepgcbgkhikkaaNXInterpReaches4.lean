/- RowInterpReaches of the seat's law InterpReaches: the law holds, under the statement's own conditions. -/
import Derived.Test.YtnepgcbgkhikkaaNXInterpReaches
import Derived.Test.YtnepgcbgkhikkaaNXInterpReaches2
import Derived.Test.YtnepgcbgkhikkaaNXInterpReaches1
import Derived.Test.YtnepgcbgkhikkaaNXInterpReaches3
import Derived.OpenShut
import Derived.SizedLaws
import Derived.DataReads
namespace Go.Proofs.Ytnepgcbgkhikkaa.H
open Go.RowKit Go.Proofs.YtnepgcbgkhikkaaW.PrintWords Go.Proofs.YtnepgcbgkhikkaaW.PrintLast Go.Proofs.YtnepgcbgkhikkaaW.PrintMore
attribute [local go_sem] max2_int min2_int max_two min_two max_three min_three max_four min_four
set_option linter.unusedVariables false
set_option linter.unusedSimpArgs false
mutual
def lambrequinlaw22_InterpReaches.l0 : Nat → Bool → List (Visit) → Int → List (Stmt) → List Int → List Bool → Int → Option (Bool)
 | 0, _, _, _, _, _, _, _ => none
 | k + 1, x3, x4, x5, x102000, x102001, x102002, x102003 => if x5 < (x4.length : Int) then (lambrequinlaw22_InterpReaches.l1 k x3 x4 x5 0 x102000 x102001 x102002 x102003) else (some x3)
def lambrequinlaw22_InterpReaches.l1 : Nat → Bool → List (Visit) → Int → Int → List (Stmt) → List Int → List Bool → Int → Option (Bool)
 | 0, _, _, _, _, _, _, _, _ => none
 | k + 1, x3, x4, x5, x6, x102000, x102001, x102002, x102003 => if 0 ≤ x5 then (if x5 < (x4.length : Int) then (if x6 < (((rd_T52 x4 x5).vars).length : Int) then (if 0 ≤ x6 then (if ((rd_T54 ((rd_T52 x4 x5).vars) x6).last) ≥ 0 then ((cfg_Reaches.f k x102000 ((rd_T52 x4 x5).place) ((rd_T54 ((rd_T52 x4 x5).vars) x6).name) ((rd_T54 ((rd_T52 x4 x5).vars) x6).last)).bind fun t112 => (if t112 = true then (if ((rd_T54 ((rd_T52 x4 x5).vars) x6).last) < 0 then (if ((rd_T54 ((rd_T52 x4 x5).vars) x6).n) = 0 then (if (rd_T54 ((rd_T52 x4 x5).vars) x6).taint = true then (lambrequinlaw22_InterpReaches.j2 k x3 x4 x5 x6 true x102000 x102001 x102002 x102003) else (lambrequinlaw22_InterpReaches.j2 k x3 x4 x5 x6 (((rd_T54 ((rd_T52 x4 x5).vars) x6).last) != (-1)) x102000 x102001 x102002 x102003)) else (lambrequinlaw22_InterpReaches.j2 k x3 x4 x5 x6 true x102000 x102001 x102002 x102003)) else (lambrequinlaw22_InterpReaches.j2 k x3 x4 x5 x6 false x102000 x102001 x102002 x102003)) else (lambrequinlaw22_InterpReaches.j2 k x3 x4 x5 x6 true x102000 x102001 x102002 x102003))) else (if ((rd_T54 ((rd_T52 x4 x5).vars) x6).last) < 0 then (if ((rd_T54 ((rd_T52 x4 x5).vars) x6).n) = 0 then (if (rd_T54 ((rd_T52 x4 x5).vars) x6).taint = true then (lambrequinlaw22_InterpReaches.j2 k x3 x4 x5 x6 true x102000 x102001 x102002 x102003) else (lambrequinlaw22_InterpReaches.j2 k x3 x4 x5 x6 (((rd_T54 ((rd_T52 x4 x5).vars) x6).last) != (-1)) x102000 x102001 x102002 x102003)) else (lambrequinlaw22_InterpReaches.j2 k x3 x4 x5 x6 true x102000 x102001 x102002 x102003)) else (lambrequinlaw22_InterpReaches.j2 k x3 x4 x5 x6 false x102000 x102001 x102002 x102003))) else (none)) else (lambrequinlaw22_InterpReaches.l0 k x3 x4 (wrap64 (x5 + 1)) x102000 x102001 x102002 x102003)) else (none)) else (none)
def lambrequinlaw22_InterpReaches.j2 : Nat → Bool → List (Visit) → Int → Int → Bool → List (Stmt) → List Int → List Bool → Int → Option (Bool)
 | 0, _, _, _, _, _, _, _, _, _ => none
 | k + 1, x3, x4, x5, x6, x82, x102000, x102001, x102002, x102003 => if x82 = true then (some false) else (lambrequinlaw22_InterpReaches.l1 k x3 x4 x5 (wrap64 (x6 + 1)) x102000 x102001 x102002 x102003)
end
def lambrequinlaw22_InterpReaches.f (k : Nat) (l0_0 : List (Stmt)) (l0_1 : List Int) (l0_2 : List Bool) (a0_3 : Int) : Option (Bool) := (lambrequinlaw22_shown.f).bind fun t102 => ((lambrequinlaw22_few.f l0_0 l0_1 l0_2 a0_3).bind fun t103 => (if t103 = true then ((interp_Run.f l0_0 l0_1 l0_2 a0_3).bind fun t104 => (lambrequinlaw22_InterpReaches.l0 k t102 t104 0 l0_0 l0_1 l0_2 a0_3)) else (some t102)))
theorem lambrequinlaw22_InterpReaches.mono_l : ∀ k, (∀ y0 y1 y2 y3 y4 y5 y6, LeO (lambrequinlaw22_InterpReaches.l0 k y0 y1 y2 y3 y4 y5 y6) (lambrequinlaw22_InterpReaches.l0 (k + 1) y0 y1 y2 y3 y4 y5 y6)) ∧ (∀ y0 y1 y2 y3 y4 y5 y6 y7, LeO (lambrequinlaw22_InterpReaches.l1 k y0 y1 y2 y3 y4 y5 y6 y7) (lambrequinlaw22_InterpReaches.l1 (k + 1) y0 y1 y2 y3 y4 y5 y6 y7)) ∧ (∀ y0 y1 y2 y3 y4 y5 y6 y7 y8, LeO (lambrequinlaw22_InterpReaches.j2 k y0 y1 y2 y3 y4 y5 y6 y7 y8) (lambrequinlaw22_InterpReaches.j2 (k + 1) y0 y1 y2 y3 y4 y5 y6 y7 y8))
 | 0 => ⟨fun _ _ _ _ _ _ _ r h => by simp [lambrequinlaw22_InterpReaches.l0] at h, fun _ _ _ _ _ _ _ _ r h => by simp [lambrequinlaw22_InterpReaches.l1] at h, fun _ _ _ _ _ _ _ _ _ r h => by simp [lambrequinlaw22_InterpReaches.j2] at h⟩
 | k + 1 => by
  obtain ⟨ih0, ih1, ih2⟩ := lambrequinlaw22_InterpReaches.mono_l k
  refine ⟨?_, ?_, ?_⟩
  ·intro y0 y1 y2 y3 y4 y5 y6
   unfold lambrequinlaw22_InterpReaches.l0
   repeat' first
   | (with_reducible exact ih0 _ _ _ _ _ _ _)
   | (with_reducible exact ih1 _ _ _ _ _ _ _ _)
   | (with_reducible exact ih2 _ _ _ _ _ _ _ _ _)
   | (with_reducible exact cfg_Reaches.mono _ _ _ _ _)
   | (with_reducible exact LeO.refl _)
   | (with_reducible exact LeO.none _)
   | (with_reducible refine LeO.ite ?_ ?_)
   | (with_reducible refine LeO.bind ?_ (fun _ => ?_))
   | exact ih0 _ _ _ _ _ _ _
   | exact ih1 _ _ _ _ _ _ _ _
   | exact ih2 _ _ _ _ _ _ _ _ _
   | exact cfg_Reaches.mono _ _ _ _ _
   | exact LeO.none _
   | refine LeO.ite ?_ ?_
   | refine LeO.bind ?_ (fun _ => ?_)
  ·intro y0 y1 y2 y3 y4 y5 y6 y7
   unfold lambrequinlaw22_InterpReaches.l1
   repeat' first
   | (with_reducible exact ih0 _ _ _ _ _ _ _)
   | (with_reducible exact ih1 _ _ _ _ _ _ _ _)
   | (with_reducible exact ih2 _ _ _ _ _ _ _ _ _)
   | (with_reducible exact cfg_Reaches.mono _ _ _ _ _)
   | (with_reducible exact LeO.refl _)
   | (with_reducible exact LeO.none _)
   | (with_reducible refine LeO.ite ?_ ?_)
   | (with_reducible refine LeO.bind ?_ (fun _ => ?_))
   | exact ih0 _ _ _ _ _ _ _
   | exact ih1 _ _ _ _ _ _ _ _
   | exact ih2 _ _ _ _ _ _ _ _ _
   | exact cfg_Reaches.mono _ _ _ _ _
   | exact LeO.none _
   | refine LeO.ite ?_ ?_
   | refine LeO.bind ?_ (fun _ => ?_)
  intro y0 y1 y2 y3 y4 y5 y6 y7 y8
  unfold lambrequinlaw22_InterpReaches.j2
  repeat' first
  | (with_reducible exact ih0 _ _ _ _ _ _ _)
  | (with_reducible exact ih1 _ _ _ _ _ _ _ _)
  | (with_reducible exact ih2 _ _ _ _ _ _ _ _ _)
  | (with_reducible exact cfg_Reaches.mono _ _ _ _ _)
  | (with_reducible exact LeO.refl _)
  | (with_reducible exact LeO.none _)
  | (with_reducible refine LeO.ite ?_ ?_)
  | (with_reducible refine LeO.bind ?_ (fun _ => ?_))
  | exact ih0 _ _ _ _ _ _ _
  | exact ih1 _ _ _ _ _ _ _ _
  | exact ih2 _ _ _ _ _ _ _ _ _
  | exact cfg_Reaches.mono _ _ _ _ _
  | exact LeO.none _
  | refine LeO.ite ?_ ?_
  | refine LeO.bind ?_ (fun _ => ?_)
theorem lambrequinlaw22_InterpReaches.mono : ∀ a0 a1 a2 a3 k, LeO (lambrequinlaw22_InterpReaches.f k a0 a1 a2 a3) (lambrequinlaw22_InterpReaches.f (k + 1) a0 a1 a2 a3) := by
 intro a0 a1 a2 a3 k
 obtain ⟨ih0, ih1, ih2⟩ := lambrequinlaw22_InterpReaches.mono_l k
 unfold lambrequinlaw22_InterpReaches.f
 repeat' first
   | (with_reducible exact ih0 _ _ _ _ _ _ _)
   | (with_reducible exact ih1 _ _ _ _ _ _ _ _)
   | (with_reducible exact ih2 _ _ _ _ _ _ _ _ _)
   | (with_reducible exact cfg_Reaches.mono _ _ _ _ _)
   | (with_reducible exact LeO.refl _)
   | (with_reducible exact LeO.none _)
   | (with_reducible refine LeO.ite ?_ ?_)
   | (with_reducible refine LeO.bind ?_ (fun _ => ?_))
   | exact ih0 _ _ _ _ _ _ _
   | exact ih1 _ _ _ _ _ _ _ _
   | exact ih2 _ _ _ _ _ _ _ _ _
   | exact cfg_Reaches.mono _ _ _ _ _
   | exact LeO.none _
   | refine LeO.ite ?_ ?_
   | refine LeO.bind ?_ (fun _ => ?_)
def lambrequinlaw22_InterpReaches.T12 : Bool × List (List Nat × List Nat) := (true, [([], []), ([0], [0]), ([1], [1]), ([2], [2]), ([3], [3]), ([4, 3], [3, 4]), ([3], [3]), ([3], [3]), ([6, 7, 3], [3, 6, 7]), ([8, 3], [3, 8]), ([9, 3], [3, 9]), ([3], [3]), ([11, 3], [3, 11]), ([3], [3]), ([13, 3], [3, 13]), ([5, 10, 12, 14, 3, 3], [3, 5, 10, 12, 14]), ([15, 3], [3, 15]), ([3, 16], [3, 16]), ([17, 15], [17]), ([18], [18]), ([19, 18], [18, 19]), ([20, 18], [18, 20]), ([21, 18, 18], [18, 21]), ([22], [22]), ([23, 22], [22, 23]), ([24, 22], [22, 24]), ([25, 22, 22], [22, 25]), ([26], [26]), ([27, 26], [26, 27]), ([26, 28, 22], [22, 26, 28]), ([29, 26, 22], [22, 29]), ([30], [30]), ([31, 30], [30, 31]), ([32, 30], [30, 32]), ([30, 33, 22], [22, 30, 33]), ([22, 34, 18], [18, 22, 34]), ([18, 35], [18, 35])])
def lambrequinlaw22_InterpReaches.B12 : List Nat := [0, 1, 3, 7, 15, 31, 15, 15, 207, 463, 975, 15, 2063, 15, 8207, 32767, 65535, 131071, 262143, 524287, 1048575, 2097151, 4194303, 8388607, 16777215, 33554431, 67108863, 134217727, 268435455, 536870911, 1073741823, 2147483647, 4294967295, 8589934591, 17179869183, 34359738367, 68719476735]
theorem lambrequinlaw22_InterpReaches.tab12 : rtab .any (opsOf Try.f14 12) = lambrequinlaw22_InterpReaches.T12 := by kernel_rfl
theorem lambrequinlaw22_InterpReaches.bits12 : waitsOk lambrequinlaw22_InterpReaches.T12.2 lambrequinlaw22_InterpReaches.B12 = true := by kernel_rfl
set_option maxHeartbeats 8000000 in
set_option maxRecDepth 100000 in
theorem lambrequinlaw22_InterpReaches.calls (k : Nat) (A0_0 : Option Addr) (c0_0 : Nat) (l0_0 : List (Stmt)) (A0_1 : Option Addr) (c0_1 : Nat) (l0_1 : List Int) (A0_2 : Option Addr) (c0_2 : Nat) (l0_2 : List Bool) (a0_3 : Int) (r : Bool) (w : World) (hr0_0 : Kd.C k30 w A0_0 l0_0.length l0_0) (hc0_0 : l0_0.length ≤ c0_0) (hr0_1 : Kd.C (Kd.int .i64) w A0_1 l0_1.length l0_1) (hc0_1 : l0_1.length ≤ c0_1) (hr0_2 : Kd.C Kd.bool w A0_2 l0_2.length l0_2) (hc0_2 : l0_2.length ≤ c0_2) (h : lambrequinlaw22_InterpReaches.f k l0_0 l0_1 l0_2 a0_3 = some r) :
  Calls Try.prog 14 #[.agg #[.slice A0_0 l0_0.length c0_0, .slice A0_1 l0_1.length c0_1, .slice A0_2 l0_2.length c0_2, .int .i64 a0_3]] w fun e w' => e = .returned (.bool r) ∧ Below w.heap.size w w' := by
 have hu43 := Try.underlying43
 have hu54 := Try.underlying54
 have HR0_0 := am hr0_0
 have HC0_0 := am hc0_0
 clear hr0_0 hc0_0
 have HR0_1 := am hr0_1
 have HC0_1 := am hc0_1
 clear hr0_1 hc0_1
 have HR0_2 := am hr0_2
 have HC0_2 := am hc0_2
 clear hr0_2 hc0_2
 have HB := am (Below.refl w.heap.size w)
 have H : ((lambrequinlaw22_shown.f).bind fun t102 => ((lambrequinlaw22_few.f l0_0 l0_1 l0_2 a0_3).bind fun t103 => (if t103 = true then ((interp_Run.f l0_0 l0_1 l0_2 a0_3).bind fun t104 => (lambrequinlaw22_InterpReaches.l0 k t102 t104 0 l0_0 l0_1 l0_2 a0_3)) else (some t102)))) = some r := h
 clear h
 replace H := Option.bind_eq_some_iff.mp H
 obtain ⟨t102, A20, H⟩ := H
 replace H : ((lambrequinlaw22_few.f l0_0 l0_1 l0_2 a0_3).bind fun t103 => (if t103 = true then ((interp_Run.f l0_0 l0_1 l0_2 a0_3).bind fun t104 => (lambrequinlaw22_InterpReaches.l0 k t102 t104 0 l0_0 l0_1 l0_2 a0_3)) else (some t102))) = some r := H
 have A2 := am A20
 clear A20
 replace H := Option.bind_eq_some_iff.mp H
 obtain ⟨t103, A30, H⟩ := H
 replace H : (if t103 = true then ((interp_Run.f l0_0 l0_1 l0_2 a0_3).bind fun t104 => (lambrequinlaw22_InterpReaches.l0 k t102 t104 0 l0_0 l0_1 l0_2 a0_3)) else (some t102)) = some r := H
 have A3 := am A30
 clear A30
 as_aux_lemma =>
 by_cases c4 : t103 = true
 rotate_left
 ·replace c4 := Bool.eq_false_iff.mpr c4
  subst c4
  have H1 : (some t102) = some r := by rw [if_neg (show ¬ (false = true) by decide)] at H; exact H
  clear H
  have H := H1
  clear H1
  obtain rfl := Option.some.inj H
  go_enter Try.func14, Try.ntmps14
  go_wp2_with (first | ((with_reducible refine gate_dst (N := 1) rfl ?_); refine box_event ?hg (N := 1) ?hd (cs := #[.slice A0_0 l0_0.length c0_0, .slice A0_1 l0_1.length c0_1, .slice A0_2 l0_2.length c0_2, .int .i64 a0_3]) (t := 43) ?hr ?_; (case hd => rfl); (case hg => rfl); (case hr => first | (go_simp; done) | (go_simp; rfl)); intro gb101 hg w58 hbox hb; have BK101 := am (hbox); have GW101 := am ((by rw [hg]; exact (below_size (by repeat (first | (with_reducible first | exact HB.out | apply lA | apply lN | apply lD) | exact HB.out))) : w.heap.size ≤ gb101)); have GE101 := am ((by rw [hg]; exact (below_size (by repeat (first | (with_reducible first | exact HB.out | apply lA | apply lN | apply lD) | exact HB.out))) : w.heap.size ≤ gb101)); replace HB := am (below_step (by repeat (first | (with_reducible first | exact HB.out | apply lA | apply lN | apply lD) | exact HB.out)) hb); clear hb hbox hg) | ((with_reducible refine gate_callee (f := 33) rfl ?_); refine goesL_ (some 8) rfl rfl Try.func33 (by kernel_rfl) rfl #[] rfl (by (try simp only [List.map_toArray, List.map_cons, List.map_nil]); first | done | rfl | (simp only [List.length_drop, List.length_take]; rfl)) ?_; (with_reducible refine (lambrequinlaw22_shown.calls  t102 _ A2.out).mono ?_); rintro e w59 ⟨rfl, hb⟩; refine ⟨_, rfl, ?_⟩; replace BK101 := am (blk_below (g := gb101) (o := .cells #[.slice A0_0 l0_0.length c0_0, .slice A0_1 l0_1.length c0_1, .slice A0_2 l0_2.length c0_2, .int .i64 a0_3] 43 (0, 0)) (by (with_reducible repeat (first | refine bN ?_ _ | refine bD ?_ | refine bA ?_ _)); exact BK101.out) hb); replace HB := am (below_step (by repeat (first | (with_reducible first | exact HB.out | apply lA | apply lN | apply lD | refine lS ?_ GE101.out) | exact HB.out)) hb); (try clear hb); (try clear hb2); (try clear hk); (try clear hi); have hcz60_0 : w59.cell? ⟨gb101, 0, none⟩ = some (.slice A0_0 l0_0.length c0_0) := (blk_cell BK101.out 0).trans rfl; have hcz60_1 : w59.cell? ⟨gb101, 1, none⟩ = some (.slice A0_1 l0_1.length c0_1) := (blk_cell BK101.out 1).trans rfl; have hcz60_2 : w59.cell? ⟨gb101, 2, none⟩ = some (.slice A0_2 l0_2.length c0_2) := (blk_cell BK101.out 2).trans rfl; have hcz60_3 : w59.cell? ⟨gb101, 3, none⟩ = some (.int .i64 a0_3) := (blk_cell BK101.out 3).trans rfl; have hfz60_0 := blk_frozen BK101.out 0; have hfz60_1 := blk_frozen BK101.out 1; have hfz60_2 := blk_frozen BK101.out 2; have hfz60_3 := blk_frozen BK101.out 3) | ((with_reducible refine gate_callee (f := 34) rfl ?_); refine goesL_ (some 10) rfl rfl Try.func34 (by kernel_rfl) rfl #[.agg #[.slice A0_0 l0_0.length c0_0, .slice A0_1 l0_1.length c0_1, .slice A0_2 l0_2.length c0_2, .int .i64 a0_3]] rfl (by (try simp only [List.map_toArray, List.map_cons, List.map_nil]); first | done | rfl | (simp only [List.length_drop, List.length_take]; rfl)) ?_; (with_reducible refine (lambrequinlaw22_few.calls _ _ l0_0 _ _ l0_1 _ _ l0_2 a0_3 false _ ?side1 ?side2 ?side3 ?side4 ?side5 ?side6 A3.out).mono ?_); (case side1 => repeat (first | exact (Kd.C_below HR0_0.out HB.out) | (with_reducible refine Kd.C_alloc ?_ _) | (with_reducible refine Kd.C_drewN ?_ _) | (with_reducible refine Kd.C_drew ?_))); (case side2 => exact HC0_0.out); (case side3 => repeat (first | exact (Kd.C_below HR0_1.out HB.out) | (with_reducible refine Kd.C_alloc ?_ _) | (with_reducible refine Kd.C_drewN ?_ _) | (with_reducible refine Kd.C_drew ?_))); (case side4 => exact HC0_1.out); (case side5 => repeat (first | exact (Kd.C_below HR0_2.out HB.out) | (with_reducible refine Kd.C_alloc ?_ _) | (with_reducible refine Kd.C_drewN ?_ _) | (with_reducible refine Kd.C_drew ?_))); (case side6 => exact HC0_2.out); rintro e w61 ⟨rfl, hb⟩; refine ⟨_, rfl, ?_⟩; replace BK101 := am (blk_below (g := gb101) (o := .cells #[.slice A0_0 l0_0.length c0_0, .slice A0_1 l0_1.length c0_1, .slice A0_2 l0_2.length c0_2, .int .i64 a0_3] 43 (0, 0)) (by (with_reducible repeat (first | refine bN ?_ _ | refine bD ?_ | refine bA ?_ _)); exact BK101.out) hb); replace HB := am (below_step (by repeat (first | (with_reducible first | exact HB.out | apply lA | apply lN | apply lD | refine lS ?_ GE101.out) | exact HB.out)) hb); (try clear hb); (try clear hb2); (try clear hk); (try clear hi)))
  go_ret
  exact ⟨by first | rfl | (simp [errW_none, errW_some] <;> rfl) | (simp [*, errW_none, errW_some] <;> rfl), by repeat (first | (with_reducible first | exact HB.out | apply lA | apply lN | apply lD | refine lS ?_ GE101.out) | exact HB.out)⟩
 subst c4
 have H1 : ((interp_Run.f l0_0 l0_1 l0_2 a0_3).bind fun t104 => (lambrequinlaw22_InterpReaches.l0 k t102 t104 0 l0_0 l0_1 l0_2 a0_3)) = some r := by rw [if_pos rfl] at H; exact H
 clear H
 have H := H1
 clear H1
 replace H := Option.bind_eq_some_iff.mp H
 obtain ⟨t104, A50, H⟩ := H
 replace H : (lambrequinlaw22_InterpReaches.l0 k t102 t104 0 l0_0 l0_1 l0_2 a0_3) = some r := H
 have A5 := am A50
 clear A50
 have H' := am H
 clear H
 go_enter Try.func14, Try.ntmps14
 go_wp2_with (first | ((with_reducible refine gate_dst (N := 1) rfl ?_); refine box_event ?hg (N := 1) ?hd (cs := #[.slice A0_0 l0_0.length c0_0, .slice A0_1 l0_1.length c0_1, .slice A0_2 l0_2.length c0_2, .int .i64 a0_3]) (t := 43) ?hr ?_; (case hd => rfl); (case hg => rfl); (case hr => first | (go_simp; done) | (go_simp; rfl)); intro gb101 hg w6 hbox hb; have BK101 := am (hbox); have GW101 := am ((by rw [hg]; exact (below_size (by repeat (first | (with_reducible first | exact HB.out | apply lA | apply lN | apply lD) | exact HB.out))) : w.heap.size ≤ gb101)); have GE101 := am ((by rw [hg]; exact (below_size (by repeat (first | (with_reducible first | exact HB.out | apply lA | apply lN | apply lD) | exact HB.out))) : w.heap.size ≤ gb101)); replace HB := am (below_step (by repeat (first | (with_reducible first | exact HB.out | apply lA | apply lN | apply lD) | exact HB.out)) hb); clear hb hbox hg) | ((with_reducible refine gate_callee (f := 33) rfl ?_); refine goesL_ (some 8) rfl rfl Try.func33 (by kernel_rfl) rfl #[] rfl (by (try simp only [List.map_toArray, List.map_cons, List.map_nil]); first | done | rfl | (simp only [List.length_drop, List.length_take]; rfl)) ?_; (with_reducible refine (lambrequinlaw22_shown.calls  t102 _ A2.out).mono ?_); rintro e w7 ⟨rfl, hb⟩; refine ⟨_, rfl, ?_⟩; replace BK101 := am (blk_below (g := gb101) (o := .cells #[.slice A0_0 l0_0.length c0_0, .slice A0_1 l0_1.length c0_1, .slice A0_2 l0_2.length c0_2, .int .i64 a0_3] 43 (0, 0)) (by (with_reducible repeat (first | refine bN ?_ _ | refine bD ?_ | refine bA ?_ _)); exact BK101.out) hb); replace HB := am (below_step (by repeat (first | (with_reducible first | exact HB.out | apply lA | apply lN | apply lD | refine lS ?_ GE101.out) | exact HB.out)) hb); (try clear hb); (try clear hb2); (try clear hk); (try clear hi); have hcz8_0 : w7.cell? ⟨gb101, 0, none⟩ = some (.slice A0_0 l0_0.length c0_0) := (blk_cell BK101.out 0).trans rfl; have hcz8_1 : w7.cell? ⟨gb101, 1, none⟩ = some (.slice A0_1 l0_1.length c0_1) := (blk_cell BK101.out 1).trans rfl; have hcz8_2 : w7.cell? ⟨gb101, 2, none⟩ = some (.slice A0_2 l0_2.length c0_2) := (blk_cell BK101.out 2).trans rfl; have hcz8_3 : w7.cell? ⟨gb101, 3, none⟩ = some (.int .i64 a0_3) := (blk_cell BK101.out 3).trans rfl; have hfz8_0 := blk_frozen BK101.out 0; have hfz8_1 := blk_frozen BK101.out 1; have hfz8_2 := blk_frozen BK101.out 2; have hfz8_3 := blk_frozen BK101.out 3) | ((with_reducible refine gate_callee (f := 34) rfl ?_); refine goesL_ (some 10) rfl rfl Try.func34 (by kernel_rfl) rfl #[.agg #[.slice A0_0 l0_0.length c0_0, .slice A0_1 l0_1.length c0_1, .slice A0_2 l0_2.length c0_2, .int .i64 a0_3]] rfl (by (try simp only [List.map_toArray, List.map_cons, List.map_nil]); first | done | rfl | (simp only [List.length_drop, List.length_take]; rfl)) ?_; (with_reducible refine (lambrequinlaw22_few.calls _ _ l0_0 _ _ l0_1 _ _ l0_2 a0_3 true _ ?side1 ?side2 ?side3 ?side4 ?side5 ?side6 A3.out).mono ?_); (case side1 => repeat (first | exact (Kd.C_below HR0_0.out HB.out) | (with_reducible refine Kd.C_alloc ?_ _) | (with_reducible refine Kd.C_drewN ?_ _) | (with_reducible refine Kd.C_drew ?_))); (case side2 => exact HC0_0.out); (case side3 => repeat (first | exact (Kd.C_below HR0_1.out HB.out) | (with_reducible refine Kd.C_alloc ?_ _) | (with_reducible refine Kd.C_drewN ?_ _) | (with_reducible refine Kd.C_drew ?_))); (case side4 => exact HC0_1.out); (case side5 => repeat (first | exact (Kd.C_below HR0_2.out HB.out) | (with_reducible refine Kd.C_alloc ?_ _) | (with_reducible refine Kd.C_drewN ?_ _) | (with_reducible refine Kd.C_drew ?_))); (case side6 => exact HC0_2.out); rintro e w9 ⟨rfl, hb⟩; refine ⟨_, rfl, ?_⟩; replace BK101 := am (blk_below (g := gb101) (o := .cells #[.slice A0_0 l0_0.length c0_0, .slice A0_1 l0_1.length c0_1, .slice A0_2 l0_2.length c0_2, .int .i64 a0_3] 43 (0, 0)) (by (with_reducible repeat (first | refine bN ?_ _ | refine bD ?_ | refine bA ?_ _)); exact BK101.out) hb); replace HB := am (below_step (by repeat (first | (with_reducible first | exact HB.out | apply lA | apply lN | apply lD | refine lS ?_ GE101.out) | exact HB.out)) hb); (try clear hb); (try clear hb2); (try clear hk); (try clear hi); have hcz10_0 : w9.cell? ⟨gb101, 0, none⟩ = some (.slice A0_0 l0_0.length c0_0) := (blk_cell BK101.out 0).trans rfl; have hcz10_1 : w9.cell? ⟨gb101, 1, none⟩ = some (.slice A0_1 l0_1.length c0_1) := (blk_cell BK101.out 1).trans rfl; have hcz10_2 : w9.cell? ⟨gb101, 2, none⟩ = some (.slice A0_2 l0_2.length c0_2) := (blk_cell BK101.out 2).trans rfl; have hcz10_3 : w9.cell? ⟨gb101, 3, none⟩ = some (.int .i64 a0_3) := (blk_cell BK101.out 3).trans rfl; have hfz10_0 := blk_frozen BK101.out 0; have hfz10_1 := blk_frozen BK101.out 1; have hfz10_2 := blk_frozen BK101.out 2; have hfz10_3 := blk_frozen BK101.out 3) | ((with_reducible refine gate_callee (f := 36) rfl ?_); refine goesL_ (some 21) rfl rfl Try.func36 (by kernel_rfl) rfl #[.slice A0_0 l0_0.length c0_0, .slice A0_1 l0_1.length c0_1, .slice A0_2 l0_2.length c0_2, .int .i64 a0_3] rfl (by (try simp only [List.map_toArray, List.map_cons, List.map_nil]); first | done | rfl | (simp only [List.length_drop, List.length_take]; rfl)) ?_; (with_reducible refine (interp_Run.calls _ _ l0_0 _ _ l0_1 _ _ l0_2 a0_3 t104 _ ?side1 ?side2 ?side3 ?side4 ?side5 ?side6 A5.out).mono ?_); (case side1 => repeat (first | exact (Kd.C_below HR0_0.out HB.out) | (with_reducible refine Kd.C_alloc ?_ _) | (with_reducible refine Kd.C_drewN ?_ _) | (with_reducible refine Kd.C_drew ?_))); (case side2 => exact HC0_0.out); (case side3 => repeat (first | exact (Kd.C_below HR0_1.out HB.out) | (with_reducible refine Kd.C_alloc ?_ _) | (with_reducible refine Kd.C_drewN ?_ _) | (with_reducible refine Kd.C_drew ?_))); (case side4 => exact HC0_1.out); (case side5 => repeat (first | exact (Kd.C_below HR0_2.out HB.out) | (with_reducible refine Kd.C_alloc ?_ _) | (with_reducible refine Kd.C_drewN ?_ _) | (with_reducible refine Kd.C_drew ?_))); (case side6 => exact HC0_2.out); rintro e w11 ⟨v105, rfl, ho0, hb⟩; refine ⟨_, rfl, ?_⟩; have HO106 := am (Kd.S_lower ho0 (below_size (by repeat (first | (with_reducible first | exact HB.out | apply lA | apply lN | apply lD | refine lS ?_ GE101.out) | exact HB.out)))); replace BK101 := am (blk_below (g := gb101) (o := .cells #[.slice A0_0 l0_0.length c0_0, .slice A0_1 l0_1.length c0_1, .slice A0_2 l0_2.length c0_2, .int .i64 a0_3] 43 (0, 0)) (by (with_reducible repeat (first | refine bN ?_ _ | refine bD ?_ | refine bA ?_ _)); exact BK101.out) hb); replace HB := am (below_step (by repeat (first | (with_reducible first | exact HB.out | apply lA | apply lN | apply lD | refine lS ?_ GE101.out) | exact HB.out)) hb); (try clear hb); (try clear hb2); (try clear hk); (try clear hi); (try clear ho0)))
 go_loopg [5] k (fun kq v5 w' => ∃ (x5_1 : Int), v5 = .int .i64 x5_1 ∧ Aside0 (lambrequinlaw22_InterpReaches.l0 kq t102 t104 x5_1 l0_0 l0_1 l0_2 a0_3 = some r) ∧ Aside0 (kq ≤ k) ∧ Aside0 (Kd.S k52 52 w' w.heap.size (fun _ => True) v105 t104) ∧ Aside0 (w'.heap[gb101]? = some (.cells #[(.slice A0_0 l0_0.length c0_0), (.slice A0_1 l0_1.length c0_1), (.slice A0_2 l0_2.length c0_2), .int .i64 a0_3] 43 (0, 0))) ∧ Aside0 (Below w.heap.size w w'))
 case atStart => exact ⟨(0), (by first | rfl | (simp; done) | (simp [*]; done)), H', ⟨Nat.le_refl _⟩, ⟨by (with_reducible repeat (first | apply Kd.S_alloc | apply Kd.S_drewN | apply Kd.S_drew)); exact HO106.out⟩, ⟨by (with_reducible repeat (first | refine bN ?_ _ | refine bD ?_ | refine bA ?_ _)); exact BK101.out⟩, ⟨by repeat (first | (with_reducible first | exact HB.out | apply lA | apply lN | apply lD | refine lS ?_ GE101.out) | exact HB.out)⟩⟩
 case round =>
  clear H'
  try clear c1
  try clear p2
  try clear c3
  try clear c4
  try clear hcz10_0
  try clear hcz10_1
  try clear hcz10_2
  try clear hcz10_3
  try clear hcz8_0
  try clear hcz8_1
  try clear hcz8_2
  try clear hcz8_3
  try clear hfz10_0
  try clear hfz10_1
  try clear hfz10_2
  try clear hfz10_3
  try clear hfz8_0
  try clear hfz8_1
  try clear hfz8_2
  try clear hfz8_3
  obtain ⟨x5_1, rfl, HA, HK1, HO_4, BK101, HB⟩ := hrel
  cases gk with
  | zero => exact absurd HA.out (by simp [lambrequinlaw22_InterpReaches.l0])
  | succ k1 =>
   have H := HA.out
   clear HA
   simp only [lambrequinlaw22_InterpReaches.l0] at H
   as_aux_lemma =>
   by_cases c12 : x5_1 < (t104.length : Int)
   rotate_left
   ·rw [if_neg c12] at H
    have c12b0 : decide (x5_1 < (t104.length : Int)) = false := decide_eq_false c12
    clear c12
    obtain rfl := Option.some.inj H
    obtain ⟨Ao57, co57, eo57⟩ := Kd.S_slice HO_4.out
    subst eo57
    go_wp2
    go_ret
    exact ⟨by first | rfl | (simp [errW_none, errW_some] <;> rfl) | (simp [*, errW_none, errW_some] <;> rfl), by repeat (first | (with_reducible first | exact HB.out | apply lA | apply lN | apply lD | refine lS ?_ GE101.out) | exact HB.out)⟩
   rw [if_pos c12] at H
   have c12b0 : decide (x5_1 < (t104.length : Int)) = true := decide_eq_true c12
   clear c12
   have H' := am H
   clear H
   obtain ⟨Ao13, co13, eo13⟩ := Kd.S_slice HO_4.out
   subst eo13
   go_wp2
   go_loopg [6] k1 (fun kq v6 w' => ∃ (x6_2 : Int), v6 = .int .i64 x6_2 ∧ Aside0 (lambrequinlaw22_InterpReaches.l1 kq t102 t104 x5_1 x6_2 l0_0 l0_1 l0_2 a0_3 = some r) ∧ Aside0 (kq ≤ k1) ∧ Aside0 (Kd.S k52 52 w' w.heap.size (fun _ => True) (.slice Ao13 t104.length co13) t104) ∧ Aside0 (w'.heap[gb101]? = some (.cells #[(.slice A0_0 l0_0.length c0_0), (.slice A0_1 l0_1.length c0_1), (.slice A0_2 l0_2.length c0_2), .int .i64 a0_3] 43 (0, 0))) ∧ Aside0 (Below w.heap.size w w'))
   case atStart => exact ⟨(0), (by first | rfl | (simp; done) | (simp [*]; done)), H', ⟨Nat.le_refl _⟩, ⟨by (with_reducible repeat (first | apply Kd.S_alloc | apply Kd.S_drewN | apply Kd.S_drew)); exact HO_4.out⟩, ⟨by (with_reducible repeat (first | refine bN ?_ _ | refine bD ?_ | refine bA ?_ _)); exact BK101.out⟩, ⟨by repeat (first | (with_reducible first | exact HB.out | apply lA | apply lN | apply lD | refine lS ?_ GE101.out) | exact HB.out)⟩⟩
   case round =>
    clear H'
    try clear c1
    try clear p2
    try clear c3
    try clear c4
    try clear c12
    try clear c12b0
    try clear hcz10_0
    try clear hcz10_1
    try clear hcz10_2
    try clear hcz10_3
    try clear hcz8_0
    try clear hcz8_1
    try clear hcz8_2
    try clear hcz8_3
    try clear hfz10_0
    try clear hfz10_1
    try clear hfz10_2
    try clear hfz10_3
    try clear hfz8_0
    try clear hfz8_1
    try clear hfz8_2
    try clear hfz8_3
    try clear p2
    obtain ⟨x6_2, rfl, HA, HK2, HO_4, BK101, HB⟩ := hrel
    cases gk with
    | zero => exact absurd HA.out (by simp [lambrequinlaw22_InterpReaches.l1])
    | succ k2 =>
     have H := HA.out
     clear HA
     simp only [lambrequinlaw22_InterpReaches.l1] at H
     as_aux_lemma =>
     by_cases c14 : 0 ≤ x5_1
     rotate_left
     ·rw [if_neg c14] at H
      exact absurd H (by simp)
     rw [if_pos c14] at H
     have c14b0 : decide (0 ≤ x5_1) = true := decide_eq_true c14
     clear c14
     as_aux_lemma =>
     by_cases c15 : x5_1 < (t104.length : Int)
     rotate_left
     ·rw [if_neg c15] at H
      exact absurd H (by simp)
     rw [if_pos c15] at H
     have c15b0 : decide (x5_1 < (t104.length : Int)) = true := decide_eq_true c15
     clear c15
     as_aux_lemma =>
     by_cases c16 : x6_2 < (((rd_T52 t104 x5_1).vars).length : Int)
     rotate_left
     ·rw [if_neg c16] at H
      have c16b0 : decide (x6_2 < (((rd_T52 t104 x5_1).vars).length : Int)) = false := decide_eq_false c16
      clear c16
      have H' := am H
      clear H
      have p107 : 0 ≤ (x5_1 : Int) := of_decide_eq_true (by first | (with_reducible assumption) | assumption)
      have q107 : x5_1 < (t104.length : Int) := of_decide_eq_true (by first | (with_reducible assumption) | assumption)
      obtain ⟨ad107, A107_1, c107_1, e107, hx107_0, hx107_1, hl107_1, hi107_1⟩ := at_T52 (Kd.S_reads' HO_4.out).2.2 x5_1 p107 q107
      cases e107
      obtain ⟨ce107, hce107, hMe107, hcc107⟩ := Kd.S_get HO_4.out z52 x5_1 p107 (by first | exact q107 | exact of_decide_eq_true (by first | (with_reducible assumption) | assumption) | (have e_ := (Kd.S_reads' HO_4.out).1; omega))
      obtain ⟨ve107_1, rfl, ge107_1⟩ := k52_openM hMe107
      have hv107_1 := hcc107 1 _ rfl
      rw [add_field _ _ 1 (by omega)] at hv107_1
      replace hv107_1 := Option.some.inj (hv107_1.symm.trans hx107_1)
      rw [hv107_1] at ge107_1
      have HL107_1 := am (show Kd.R k54 54 _ _ _ _ ((rd_T52 t104 x5_1).vars) from ge107_1)
      clear hv107_1 ge107_1
      clear hcc107 hce107
      have HR107_1 := am hi107_1
      have HC107_1 := am hl107_1
      clear hi107_1 hl107_1
      replace p107 := eq_true p107
      replace q107 := eq_true q107
      go_wp2
      go_roundg k2
      case measure => have := HK1.out; have := HK2.out; omega
      case rel => exact ⟨(wrap64 (x5_1 + 1)), (by first | rfl | (simp; done) | (simp [*]; done)), H', ⟨by have := HK1.out; have := HK2.out; omega⟩, ⟨by (with_reducible repeat (first | apply Kd.S_alloc | apply Kd.S_drewN | apply Kd.S_drew)); exact HO_4.out⟩, ⟨by (with_reducible repeat (first | refine bN ?_ _ | refine bD ?_ | refine bA ?_ _)); first | exact BK101.out | (rw [← Nbq27.out]; exact BK101.out) | (rw [← Nbq46.out]; exact BK101.out)⟩, ⟨by repeat (first | (with_reducible first | exact HB.out | apply lA | apply lN | apply lD | refine lS ?_ GE101.out) | exact HB.out)⟩⟩
     rw [if_pos c16] at H
     have c16b0 : decide (x6_2 < (((rd_T52 t104 x5_1).vars).length : Int)) = true := decide_eq_true c16
     clear c16
     as_aux_lemma =>
     by_cases c17 : 0 ≤ x6_2
     rotate_left
     ·rw [if_neg c17] at H
      exact absurd H (by simp)
     rw [if_pos c17] at H
     have c17b0 : decide (0 ≤ x6_2) = true := decide_eq_true c17
     clear c17
     have HC18 := am H
     clear H
     have p107 : 0 ≤ (x5_1 : Int) := of_decide_eq_true (by first | (with_reducible assumption) | assumption)
     have q107 : x5_1 < (t104.length : Int) := of_decide_eq_true (by first | (with_reducible assumption) | assumption)
     obtain ⟨ad107, A107_1, c107_1, e107, hx107_0, hx107_1, hl107_1, hi107_1⟩ := at_T52 (Kd.S_reads' HO_4.out).2.2 x5_1 p107 q107
     cases e107
     obtain ⟨ce107, hce107, hMe107, hcc107⟩ := Kd.S_get HO_4.out z52 x5_1 p107 (by first | exact q107 | exact of_decide_eq_true (by first | (with_reducible assumption) | assumption) | (have e_ := (Kd.S_reads' HO_4.out).1; omega))
     obtain ⟨ve107_1, rfl, ge107_1⟩ := k52_openM hMe107
     have hv107_1 := hcc107 1 _ rfl
     rw [add_field _ _ 1 (by omega)] at hv107_1
     replace hv107_1 := Option.some.inj (hv107_1.symm.trans hx107_1)
     rw [hv107_1] at ge107_1
     have HL107_1 := am (show Kd.R k54 54 _ _ _ _ ((rd_T52 t104 x5_1).vars) from ge107_1)
     clear hv107_1 ge107_1
     clear hcc107 hce107
     have HR107_1 := am hi107_1
     have HC107_1 := am hl107_1
     clear hi107_1 hl107_1
     replace p107 := eq_true p107
     replace q107 := eq_true q107
     have p108 : 0 ≤ (x5_1 : Int) := of_decide_eq_true (by first | (with_reducible assumption) | assumption)
     have q108 : x5_1 < (t104.length : Int) := of_decide_eq_true (by first | (with_reducible assumption) | assumption)
     obtain ⟨ad108, A108_1, c108_1, e108, hx108_0, hx108_1, hl108_1, hi108_1⟩ := at_T52 (Kd.S_reads' HO_4.out).2.2 x5_1 p108 q108
     obtain rfl : ad107 = ad108 := (by injection e108)
     obtain ⟨ce108, hce108, hMe108, hcc108⟩ := Kd.S_get HO_4.out z52 x5_1 p108 (by first | exact q108 | exact of_decide_eq_true (by first | (with_reducible assumption) | assumption) | (have e_ := (Kd.S_reads' HO_4.out).1; omega))
     obtain ⟨ve108_1, rfl, ge108_1⟩ := k52_openM hMe108
     have hv108_1 := hcc108 1 _ rfl
     rw [add_field _ _ 1 (by omega)] at hv108_1
     replace hv108_1 := Option.some.inj (hv108_1.symm.trans hx108_1)
     rw [hv108_1] at ge108_1
     have HL108_1 := am (show Kd.R k54 54 _ _ _ _ ((rd_T52 t104 x5_1).vars) from ge108_1)
     clear hv108_1 ge108_1
     clear hcc108 hce108
     have HR108_1 := am hi108_1
     have HC108_1 := am hl108_1
     clear hi108_1 hl108_1
     replace p108 := eq_true p108
     replace q108 := eq_true q108
     have ea_ := Option.some.inj (hx107_1.symm.trans hx108_1)
     injection ea_ with ea_ en_ ec_
     subst ea_
     subst ec_
     clear en_
     have p109 : 0 ≤ (x6_2 : Int) := of_decide_eq_true (by first | (with_reducible assumption) | assumption)
     have q109 : x6_2 < (((rd_T52 t104 x5_1).vars).length : Int) := of_decide_eq_true (by first | (with_reducible assumption) | assumption)
     obtain ⟨ad109, e109, hx109_0, hx109_1, hx109_2, hx109_3⟩ := at_T54 (by repeat (first | (with_reducible exact HR108_1.out) | (with_reducible refine Kd.C_alloc ?_ _) | (with_reducible refine Kd.C_drewN ?_ _) | (with_reducible refine Kd.C_drew ?_) | exact HR108_1.out)) x6_2 p109 q109
     cases e109
     replace p109 := eq_true p109
     replace q109 := eq_true q109
     go_upto_region 12 with (first | ((with_reducible refine gate_dst (N := 7) rfl ?_); refine box_event ?hg (N := 7) ?hd (cs := #[.string (⟨#[]⟩ : ByteArray), .int .i64 0, .int .i64 0, .bool false]) (t := 54) ?hr ?_; (case hd => rfl); (case hg => rfl); (case hr => first | (go_simp; done) | (go_simp; rfl)); intro gb110 hg w19 hbox hb; replace HO_4 := am (Kd.S_below (Kd.S_elderB (by (with_reducible repeat (first | apply Kd.S_alloc | apply Kd.S_drewN | apply Kd.S_drew)); exact HO_4.out) gb110 (Nat.le_of_eq hg.symm)) hb); replace HL107_1 := am (Kd.R_below (Kd.R_elderB (by (with_reducible repeat (first | apply Ra | apply Rn | apply Rd)); exact HL107_1.out) gb110 (Nat.le_of_eq hg.symm)) hb); replace HL108_1 := am (Kd.R_below (Kd.R_elderB (by (with_reducible repeat (first | apply Ra | apply Rn | apply Rd)); exact HL108_1.out) gb110 (Nat.le_of_eq hg.symm)) hb); replace HR107_1 := am (Kd.C_below (by repeat (first | (with_reducible exact HR107_1.out) | (with_reducible refine Kd.C_alloc ?_ _) | (with_reducible refine Kd.C_drewN ?_ _) | (with_reducible refine Kd.C_drew ?_) | exact HR107_1.out)) hb); replace HR108_1 := am (Kd.C_below (by repeat (first | (with_reducible exact HR108_1.out) | (with_reducible refine Kd.C_alloc ?_ _) | (with_reducible refine Kd.C_drewN ?_ _) | (with_reducible refine Kd.C_drew ?_) | exact HR108_1.out)) hb); have BK110 := am (hbox); have GW110 := am ((by rw [hg]; exact (below_size (by repeat (first | (with_reducible first | exact HB.out | apply lA | apply lN | apply lD | refine lS ?_ GE101.out) | exact HB.out))) : w.heap.size ≤ gb110)); have GE110 := am ((by rw [hg]; exact (below_size (by repeat (first | (with_reducible first | exact HB.out | apply lA | apply lN | apply lD | refine lS ?_ GE101.out) | exact HB.out))) : w.heap.size ≤ gb110)); replace HB := am (below_step (by repeat (first | (with_reducible first | exact HB.out | apply lA | apply lN | apply lD | refine lS ?_ GE101.out) | exact HB.out)) hb); have NB101_110 := am ((by rw [hg]; exact Nat.ne_of_lt (blk_lt (g := gb101) (o := .cells #[.slice A0_0 l0_0.length c0_0, .slice A0_1 l0_1.length c0_1, .slice A0_2 l0_2.length c0_2, .int .i64 a0_3] 43 (0, 0)) (by (with_reducible repeat (first | refine bN ?_ _ | refine bD ?_ | refine bA ?_ _)); exact BK101.out)) : gb101 ≠ gb110)); have NB110_101 := am ((by rw [hg]; exact Nat.ne_of_gt (blk_lt (g := gb101) (o := .cells #[.slice A0_0 l0_0.length c0_0, .slice A0_1 l0_1.length c0_1, .slice A0_2 l0_2.length c0_2, .int .i64 a0_3] 43 (0, 0)) (by (with_reducible repeat (first | refine bN ?_ _ | refine bD ?_ | refine bA ?_ _)); exact BK101.out)) : gb110 ≠ gb101)); replace BK101 := am (blk_below (g := gb101) (o := .cells #[.slice A0_0 l0_0.length c0_0, .slice A0_1 l0_1.length c0_1, .slice A0_2 l0_2.length c0_2, .int .i64 a0_3] 43 (0, 0)) (by (with_reducible repeat (first | refine bN ?_ _ | refine bD ?_ | refine bA ?_ _)); exact BK101.out) hb); clear hb hbox hg; have hnb20 := NB110_101.out; have hnc20 := NB101_110.out; have hcz21_0 : w19.cell? ⟨gb110, 0, none⟩ = some (.string (⟨#[]⟩ : ByteArray)) := (blk_cell BK110.out 0).trans rfl; have hcz21_1 : w19.cell? ⟨gb110, 1, none⟩ = some (.int .i64 0) := (blk_cell BK110.out 1).trans rfl; have hcz21_2 : w19.cell? ⟨gb110, 2, none⟩ = some (.int .i64 0) := (blk_cell BK110.out 2).trans rfl; have hcz21_3 : w19.cell? ⟨gb110, 3, none⟩ = some (.bool false) := (blk_cell BK110.out 3).trans rfl; have hfz21_0 := blk_frozen BK110.out 0; have hfz21_1 := blk_frozen BK110.out 1; have hfz21_2 := blk_frozen BK110.out 2; have hfz21_3 := blk_frozen BK110.out 3))
     (try simp only [Act.put, List.setIfInBounds_toArray, List.set_cons_zero, List.set_cons_succ])
     go_cut [82] (fun v82 wc => ∃ (kq : Nat) (x82_17 : Bool), v82 = .bool x82_17 ∧ Aside0 (lambrequinlaw22_InterpReaches.j2 kq t102 t104 x5_1 x6_2 x82_17 l0_0 l0_1 l0_2 a0_3 = some r) ∧ Aside0 (kq ≤ k2) ∧ Aside0 (Kd.S k52 52 wc w.heap.size (fun k_ => k_ ≠ gb110) (.slice (some ad107) t104.length co13) t104) ∧ Aside0 (wc.heap[gb101]? = some (.cells #[(.slice A0_0 l0_0.length c0_0), (.slice A0_1 l0_1.length c0_1), (.slice A0_2 l0_2.length c0_2), .int .i64 a0_3] 43 (0, 0))) ∧ Aside0 (wc.heap[gb110]? = some (.cells #[.string ((rd_T54 ((rd_T52 t104 x5_1).vars) x6_2).name), .int .i64 ((rd_T54 ((rd_T52 t104 x5_1).vars) x6_2).n), .int .i64 ((rd_T54 ((rd_T52 t104 x5_1).vars) x6_2).last), .bool ((rd_T54 ((rd_T52 t104 x5_1).vars) x6_2).taint)] 54 (0, 0))) ∧ Aside0 (Below w.heap.size w wc))
     case first =>
      have H := HC18.out
      clear HC18
      as_aux_lemma =>
      by_cases c22 : ((rd_T54 ((rd_T52 t104 x5_1).vars) x6_2).last) ≥ 0
      rotate_left
      ·rw [if_neg c22] at H
       have c22b0 : decide (0 ≤ ((rd_T54 ((rd_T52 t104 x5_1).vars) x6_2).last)) = false := decide_eq_false c22
       clear c22
       (first | rw [c22b0] | (simp only [i64_w, i32_w]; rw [c22b0]) | skip)
       as_aux_lemma =>
       by_cases c44 : ((rd_T54 ((rd_T52 t104 x5_1).vars) x6_2).last) < 0
       rotate_left
       ·rw [if_neg c44] at H
        have c44b0 : decide (((rd_T54 ((rd_T52 t104 x5_1).vars) x6_2).last) < 0) = false := decide_eq_false c44
        clear c44
        have H' := am H
        clear H
        try go_wp2
        have n0_ : Aside0 (Kd.S k52 52 ((((w19.setCell ⟨gb110, 0, none⟩ (.string ((rd_T54 ((rd_T52 t104 x5_1).vars) x6_2).name))).setCell ⟨gb110, 1, none⟩ (.int .i64 ((rd_T54 ((rd_T52 t104 x5_1).vars) x6_2).n))).setCell ⟨gb110, 2, none⟩ (.int .i64 ((rd_T54 ((rd_T52 t104 x5_1).vars) x6_2).last))).setCell ⟨gb110, 3, none⟩ (.bool ((rd_T54 ((rd_T52 t104 x5_1).vars) x6_2).taint))) w.heap.size (fun k_ => k_ ≠ gb110) (.slice (some ad107) t104.length co13) t104) := ⟨by (with_reducible repeat (first | apply Kd.S_alloc | apply Kd.S_drewN | apply Kd.S_drew)); exact Kd.S_mono (Kd.S_far (p := ⟨gb110, 3, none⟩) (Kd.S_far (p := ⟨gb110, 2, none⟩) (Kd.S_far (p := ⟨gb110, 1, none⟩) (Kd.S_far (p := ⟨gb110, 0, none⟩) (Kd.S_mono HO_4.out (fun k_ hk => (⟨hk, hk.2⟩ : _ ∧ k_ ≠ gb110))) (fun _ hk => hk.2) _) (fun _ hk => hk.2) _) (fun _ hk => hk.2) _) (fun _ hk => hk.2) _) (fun _ hk => hk.1.2)⟩
        have n1_ : Aside0 (Kd.R k54 54 ((((w19.setCell ⟨gb110, 0, none⟩ (.string ((rd_T54 ((rd_T52 t104 x5_1).vars) x6_2).name))).setCell ⟨gb110, 1, none⟩ (.int .i64 ((rd_T54 ((rd_T52 t104 x5_1).vars) x6_2).n))).setCell ⟨gb110, 2, none⟩ (.int .i64 ((rd_T54 ((rd_T52 t104 x5_1).vars) x6_2).last))).setCell ⟨gb110, 3, none⟩ (.bool ((rd_T54 ((rd_T52 t104 x5_1).vars) x6_2).taint))) w.heap.size (fun k_ => some k_ ≠ (.slice (some ad107) t104.length co13 : Value).ownBlock ∧ k_ ≠ gb110) (.slice (some ad109) ((rd_T52 t104 x5_1).vars).length c107_1) ((rd_T52 t104 x5_1).vars)) := ⟨by (with_reducible repeat (first | apply Ra | apply Rn | apply Rd)); exact Kd.R_mono (Kd.R_far (p := ⟨gb110, 3, none⟩) (Kd.R_far (p := ⟨gb110, 2, none⟩) (Kd.R_far (p := ⟨gb110, 1, none⟩) (Kd.R_far (p := ⟨gb110, 0, none⟩) (Kd.R_mono HL107_1.out (fun k_ hk => (⟨hk, hk.2⟩ : _ ∧ k_ ≠ gb110))) (fun _ hk => hk.2) _) (fun _ hk => hk.2) _) (fun _ hk => hk.2) _) (fun _ hk => hk.2) _) (fun _ hk => ⟨hk.1.1.2, hk.1.2⟩)⟩
        have n2_ : Aside0 (Kd.R k54 54 ((((w19.setCell ⟨gb110, 0, none⟩ (.string ((rd_T54 ((rd_T52 t104 x5_1).vars) x6_2).name))).setCell ⟨gb110, 1, none⟩ (.int .i64 ((rd_T54 ((rd_T52 t104 x5_1).vars) x6_2).n))).setCell ⟨gb110, 2, none⟩ (.int .i64 ((rd_T54 ((rd_T52 t104 x5_1).vars) x6_2).last))).setCell ⟨gb110, 3, none⟩ (.bool ((rd_T54 ((rd_T52 t104 x5_1).vars) x6_2).taint))) w.heap.size (fun k_ => some k_ ≠ (.slice (some ad107) t104.length co13 : Value).ownBlock ∧ k_ ≠ gb110) (.slice (some ad109) ((rd_T52 t104 x5_1).vars).length c107_1) ((rd_T52 t104 x5_1).vars)) := ⟨by (with_reducible repeat (first | apply Ra | apply Rn | apply Rd)); exact Kd.R_mono (Kd.R_far (p := ⟨gb110, 3, none⟩) (Kd.R_far (p := ⟨gb110, 2, none⟩) (Kd.R_far (p := ⟨gb110, 1, none⟩) (Kd.R_far (p := ⟨gb110, 0, none⟩) (Kd.R_mono HL108_1.out (fun k_ hk => (⟨hk, hk.2⟩ : _ ∧ k_ ≠ gb110))) (fun _ hk => hk.2) _) (fun _ hk => hk.2) _) (fun _ hk => hk.2) _) (fun _ hk => hk.2) _) (fun _ hk => ⟨hk.1.1.2, hk.1.2⟩)⟩
        have n3_ : Aside0 (((((w19.setCell ⟨gb110, 0, none⟩ (.string ((rd_T54 ((rd_T52 t104 x5_1).vars) x6_2).name))).setCell ⟨gb110, 1, none⟩ (.int .i64 ((rd_T54 ((rd_T52 t104 x5_1).vars) x6_2).n))).setCell ⟨gb110, 2, none⟩ (.int .i64 ((rd_T54 ((rd_T52 t104 x5_1).vars) x6_2).last))).setCell ⟨gb110, 3, none⟩ (.bool ((rd_T54 ((rd_T52 t104 x5_1).vars) x6_2).taint))).heap[gb101]? = some (.cells #[.slice A0_0 l0_0.length c0_0, .slice A0_1 l0_1.length c0_1, .slice A0_2 l0_2.length c0_2, .int .i64 a0_3] 43 (0, 0))) := ⟨by repeat (first | (with_reducible first | exact BK101.out | refine bN ?_ _ | refine bD ?_ | refine bA ?_ _) | refine blk_far ?_ NB101_110.out _ | exact BK101.out)⟩
        have n4_ : Aside0 (((((w19.setCell ⟨gb110, 0, none⟩ (.string ((rd_T54 ((rd_T52 t104 x5_1).vars) x6_2).name))).setCell ⟨gb110, 1, none⟩ (.int .i64 ((rd_T54 ((rd_T52 t104 x5_1).vars) x6_2).n))).setCell ⟨gb110, 2, none⟩ (.int .i64 ((rd_T54 ((rd_T52 t104 x5_1).vars) x6_2).last))).setCell ⟨gb110, 3, none⟩ (.bool ((rd_T54 ((rd_T52 t104 x5_1).vars) x6_2).taint))).heap[gb110]? = some (.cells #[.string ((rd_T54 ((rd_T52 t104 x5_1).vars) x6_2).name), .int .i64 ((rd_T54 ((rd_T52 t104 x5_1).vars) x6_2).n), .int .i64 ((rd_T54 ((rd_T52 t104 x5_1).vars) x6_2).last), .bool ((rd_T54 ((rd_T52 t104 x5_1).vars) x6_2).taint)] 54 (0, 0))) := ⟨by (with_reducible repeat (first | refine bN ?_ _ | refine bD ?_ | refine bA ?_ _)); refine blk_put (cs := #[.string ((rd_T54 ((rd_T52 t104 x5_1).vars) x6_2).name), .int .i64 ((rd_T54 ((rd_T52 t104 x5_1).vars) x6_2).n), .int .i64 ((rd_T54 ((rd_T52 t104 x5_1).vars) x6_2).last), .bool false]) ?_ 3 _ rfl; (with_reducible repeat (first | refine bN ?_ _ | refine bD ?_ | refine bA ?_ _)); refine blk_put (cs := #[.string ((rd_T54 ((rd_T52 t104 x5_1).vars) x6_2).name), .int .i64 ((rd_T54 ((rd_T52 t104 x5_1).vars) x6_2).n), .int .i64 0, .bool false]) ?_ 2 _ rfl; (with_reducible repeat (first | refine bN ?_ _ | refine bD ?_ | refine bA ?_ _)); refine blk_put (cs := #[.string ((rd_T54 ((rd_T52 t104 x5_1).vars) x6_2).name), .int .i64 0, .int .i64 0, .bool false]) ?_ 1 _ rfl; (with_reducible repeat (first | refine bN ?_ _ | refine bD ?_ | refine bA ?_ _)); refine blk_put (cs := #[.string (⟨#[]⟩ : ByteArray), .int .i64 0, .int .i64 0, .bool false]) ?_ 0 _ rfl; (with_reducible repeat (first | refine bN ?_ _ | refine bD ?_ | refine bA ?_ _)); exact BK110.out⟩
        have n5_ : Aside0 (Below w.heap.size w ((((w19.setCell ⟨gb110, 0, none⟩ (.string ((rd_T54 ((rd_T52 t104 x5_1).vars) x6_2).name))).setCell ⟨gb110, 1, none⟩ (.int .i64 ((rd_T54 ((rd_T52 t104 x5_1).vars) x6_2).n))).setCell ⟨gb110, 2, none⟩ (.int .i64 ((rd_T54 ((rd_T52 t104 x5_1).vars) x6_2).last))).setCell ⟨gb110, 3, none⟩ (.bool ((rd_T54 ((rd_T52 t104 x5_1).vars) x6_2).taint)))) := ⟨by repeat (first | (with_reducible first | exact HB.out | apply lA | apply lN | apply lD | refine lS ?_ GE101.out | refine lS ?_ GE110.out) | exact HB.out)⟩
        (try clear HO_4)
        (try clear HL107_1)
        (try clear HL108_1)
        (try clear BK101)
        (try clear BK110)
        (try clear HB)
        generalize ((((w19.setCell ⟨gb110, 0, none⟩ (.string ((rd_T54 ((rd_T52 t104 x5_1).vars) x6_2).name))).setCell ⟨gb110, 1, none⟩ (.int .i64 ((rd_T54 ((rd_T52 t104 x5_1).vars) x6_2).n))).setCell ⟨gb110, 2, none⟩ (.int .i64 ((rd_T54 ((rd_T52 t104 x5_1).vars) x6_2).last))).setCell ⟨gb110, 3, none⟩ (.bool ((rd_T54 ((rd_T52 t104 x5_1).vars) x6_2).taint))) = w54 at n0_ n1_ n2_ n3_ n4_ n5_ ⊢
        have HO_4 := n0_
        have HL107_1 := n1_
        have HL108_1 := n2_
        have BK101 := n3_
        have BK110 := n4_
        have HB := n5_
        clear n0_ n1_ n2_ n3_ n4_ n5_
        replace HO_4 := am (Kd.S_drew HO_4.out)
        replace HL107_1 := am (Kd.R_drew HL107_1.out)
        replace HL108_1 := am (Kd.R_drew HL108_1.out)
        replace BK101 := am (blk_drew BK101.out)
        replace BK110 := am (blk_drew BK110.out)
        replace HB := am (below_drew1 HB.out)
        refine start_ (n := 37) (S := fun w' => w'.cell? ⟨gb110, 0, none⟩ = some (.string ((rd_T54 ((rd_T52 t104 x5_1).vars) x6_2).name)) ∧ w'.cell? ⟨gb110, 1, none⟩ = some (.int .i64 ((rd_T54 ((rd_T52 t104 x5_1).vars) x6_2).n)) ∧ w'.cell? ⟨gb110, 2, none⟩ = some (.int .i64 ((rd_T54 ((rd_T52 t104 x5_1).vars) x6_2).last)) ∧ w'.cell? ⟨gb110, 3, none⟩ = some (.bool ((rd_T54 ((rd_T52 t104 x5_1).vars) x6_2).taint))) (ds := []) (bl 37 0) (by kernel_rfl) rfl rfl ⟨(blk_cell BK110.out 0).trans rfl, (blk_cell BK110.out 1).trans rfl, (blk_cell BK110.out 2).trans rfl, (blk_cell BK110.out 3).trans rfl⟩ (fun hHeld => ?_); refine with_tabW lambrequinlaw22_InterpReaches.tab12 lambrequinlaw22_InterpReaches.bits12 (fun HT_ HW_ => ?_)
        generalize w54.drew = w55 at HO_4 HL107_1 HL108_1 BK101 BK110 HB hHeld ⊢
        refine pure_ (i := 0) (N := some 46) (v := ?_) (a' := ?_) (bl 37 1) rfl rfl (any_of HT_.out (by kernel_rfl)) (fun _ _ _ h => h) (Or.inl ⟨by rfl, ?_⟩) ?_ ?_
        rotate_left
        ·intro w'
         go_simp
         with_reducible rfl
        rotate_left
        ·simp only [Act.put, sA, sZ, sS, i64_w, i32_w]
         rfl
        refine take_ (i := 1) (N := some 47) (v := ?_) (a' := ?_) (bl 37 3) rfl rfl (take_ofW HT_.out HW_.out (by kernel_rfl)) (fun _ _ _ h => h) (Or.inl ⟨by rfl, ?_⟩) hHeld ?_ ?_
        rotate_left
        ·rintro w' ⟨s0, s1, s2, s3⟩
         go_simp
         with_reducible rfl
        rotate_left
        ·simp only [Act.put, sA, sZ, sS, i64_w, i32_w]
         rfl
        refine pure_ (i := 2) (N := some 48) (v := ?_) (a' := ?_) (bl 37 7) rfl rfl (any_of HT_.out (by kernel_rfl)) (fun _ _ _ h => h) (Or.inl ⟨by rfl, ?_⟩) ?_ ?_
        rotate_left
        ·intro w'
         go_simp
         with_reducible rfl
        rotate_left
        ·simp only [Act.put, sA, sZ, sS, i64_w, i32_w]
         rfl
        refine pure_ (i := 3) (N := some 49) (v := ?_) (a' := ?_) (bl 37 15) rfl rfl (any_of HT_.out (by kernel_rfl)) (fun _ _ _ h => h) (Or.inl ⟨by rfl, ?_⟩) ?_ ?_
        rotate_left
        ·intro w'
         go_simp
         with_reducible rfl
        rotate_left
        ·simp only [Act.put, sA, sZ, sS, i64_w, i32_w]
         rfl
        refine pure_ (i := 4) (N := some 50) (v := undef) (a' := ?_) (bl 37 31) rfl rfl (any_of HT_.out (by kernel_rfl)) (fun _ _ _ h => h) (Or.inr ⟨by rfl, rfl⟩) ?_ ?_
        rotate_left
        ·simp only [Act.put, sA, sZ, sS, i64_w, i32_w]
         rfl
        refine pure_ (i := 5) (N := some 51) (v := undef) (a' := ?_) (bl 37 63) rfl rfl (any_of HT_.out (by kernel_rfl)) (fun _ _ _ h => h) (Or.inr ⟨by rfl, rfl⟩) ?_ ?_
        rotate_left
        ·simp only [Act.put, sA, sZ, sS, i64_w, i32_w]
         rfl
        refine pure_ (i := 6) (N := some 52) (v := undef) (a' := ?_) (bl 37 127) rfl rfl (any_of HT_.out (by kernel_rfl)) (fun _ _ _ h => h) (Or.inr ⟨by rfl, rfl⟩) ?_ ?_
        rotate_left
        ·simp only [Act.put, sA, sZ, sS, i64_w, i32_w]
         rfl
        refine pure_ (i := 7) (N := some 53) (v := undef) (a' := ?_) (bl 37 255) rfl rfl (any_of HT_.out (by kernel_rfl)) (fun _ _ _ h => h) (Or.inr ⟨by rfl, rfl⟩) ?_ ?_
        rotate_left
        ·simp only [Act.put, sA, sZ, sS, i64_w, i32_w]
         rfl
        refine pure_ (i := 8) (N := some 54) (v := undef) (a' := ?_) (bl 37 511) rfl rfl (any_of HT_.out (by kernel_rfl)) (fun _ _ _ h => h) (Or.inr ⟨by rfl, rfl⟩) ?_ ?_
        rotate_left
        ·simp only [Act.put, sA, sZ, sS, i64_w, i32_w]
         rfl
        refine pure_ (i := 9) (N := some 55) (v := undef) (a' := ?_) (bl 37 1023) rfl rfl (any_of HT_.out (by kernel_rfl)) (fun _ _ _ h => h) (Or.inr ⟨by rfl, rfl⟩) ?_ ?_
        rotate_left
        ·simp only [Act.put, sA, sZ, sS, i64_w, i32_w]
         rfl
        refine pure_ (i := 10) (N := some 56) (v := undef) (a' := ?_) (bl 37 2047) rfl rfl (any_of HT_.out (by kernel_rfl)) (fun _ _ _ h => h) (Or.inr ⟨by rfl, rfl⟩) ?_ ?_
        rotate_left
        ·simp only [Act.put, sA, sZ, sS, i64_w, i32_w]
         rfl
        refine pure_ (i := 11) (N := some 57) (v := undef) (a' := ?_) (bl 37 4095) rfl rfl (any_of HT_.out (by kernel_rfl)) (fun _ _ _ h => h) (Or.inr ⟨by rfl, rfl⟩) ?_ ?_
        rotate_left
        ·simp only [Act.put, sA, sZ, sS, i64_w, i32_w]
         rfl
        refine pure_ (i := 12) (N := some 58) (v := undef) (a' := ?_) (bl 37 8191) rfl rfl (any_of HT_.out (by kernel_rfl)) (fun _ _ _ h => h) (Or.inr ⟨by rfl, rfl⟩) ?_ ?_
        rotate_left
        ·simp only [Act.put, sA, sZ, sS, i64_w, i32_w]
         rfl
        refine pure_ (i := 13) (N := some 59) (v := undef) (a' := ?_) (bl 37 16383) rfl rfl (any_of HT_.out (by kernel_rfl)) (fun _ _ _ h => h) (Or.inr ⟨by rfl, rfl⟩) ?_ ?_
        rotate_left
        ·simp only [Act.put, sA, sZ, sS, i64_w, i32_w]
         rfl
        refine pure_ (i := 14) (N := some 60) (v := undef) (a' := ?_) (bl 37 32767) rfl rfl (any_of HT_.out (by kernel_rfl)) (fun _ _ _ h => h) (Or.inr ⟨by rfl, rfl⟩) ?_ ?_
        rotate_left
        ·simp only [Act.put, sA, sZ, sS, i64_w, i32_w]
         rfl
        refine pure_ (i := 15) (N := some 61) (v := undef) (a' := ?_) (bl 37 65535) rfl rfl (any_of HT_.out (by kernel_rfl)) (fun _ _ _ h => h) (Or.inr ⟨by rfl, rfl⟩) ?_ ?_
        rotate_left
        ·simp only [Act.put, sA, sZ, sS, i64_w, i32_w]
         rfl
        refine pure_ (i := 16) (N := some 62) (v := undef) (a' := ?_) (bl 37 131071) rfl rfl (any_of HT_.out (by kernel_rfl)) (fun _ _ _ h => h) (Or.inr ⟨by rfl, rfl⟩) ?_ ?_
        rotate_left
        ·simp only [Act.put, sA, sZ, sS, i64_w, i32_w]
         rfl
        refine pure_ (i := 17) (N := some 63) (v := ?_) (a' := ?_) (bl 37 262143) rfl rfl (any_of HT_.out (by kernel_rfl)) (fun _ _ _ h => h) (Or.inl ⟨by rfl, ?_⟩) ?_ ?_
        rotate_left
        ·intro w'
         go_simp
         with_reducible rfl
        rotate_left
        ·simp only [Act.put, sA, sZ, sS, i64_w, i32_w]
         rfl
        refine pure_ (i := 18) (N := some 64) (v := ?_) (a' := ?_) (bl 37 524287) rfl rfl (any_of HT_.out (by kernel_rfl)) (fun _ _ _ h => h) (Or.inl ⟨by rfl, ?_⟩) ?_ ?_
        rotate_left
        ·intro w'
         go_simp
         with_reducible rfl
        rotate_left
        ·simp only [Act.put, sA, sZ, sS, i64_w, i32_w]
         rfl
        refine pure_ (i := 19) (N := some 65) (v := ?_) (a' := ?_) (bl 37 1048575) rfl rfl (any_of HT_.out (by kernel_rfl)) (fun _ _ _ h => h) (Or.inl ⟨by rfl, ?_⟩) ?_ ?_
        rotate_left
        ·intro w'
         go_simp
         with_reducible rfl
        rotate_left
        ·simp only [Act.put, sA, sZ, sS, i64_w, i32_w]
         rfl
        refine take_ (i := 20) (N := some 66) (v := ?_) (a' := ?_) (bl 37 2097151) rfl rfl (take_ofW HT_.out HW_.out (by kernel_rfl)) (fun _ _ _ h => h) (Or.inl ⟨by rfl, ?_⟩) hHeld ?_ ?_
        rotate_left
        ·rintro w' ⟨s0, s1, s2, s3⟩
         go_simp
         with_reducible rfl
        rotate_left
        ·simp only [Act.put, sA, sZ, sS, i64_w, i32_w]
         rfl
        refine pure_ (i := 21) (N := some 67) (v := ?_) (a' := ?_) (bl 37 4194303) rfl rfl (any_of HT_.out (by kernel_rfl)) (fun _ _ _ h => h) (Or.inl ⟨by rfl, ?_⟩) ?_ ?_
        rotate_left
        ·intro w'
         go_simp
         with_reducible rfl
        rotate_left
        ·simp only [Act.put, sA, sZ, sS, i64_w, i32_w]
         rfl
        refine pure_ (i := 22) (N := some 68) (v := ?_) (a' := ?_) (bl 37 8388607) rfl rfl (any_of HT_.out (by kernel_rfl)) (fun _ _ _ h => h) (Or.inl ⟨by rfl, ?_⟩) ?_ ?_
        rotate_left
        ·intro w'
         go_simp
         with_reducible rfl
        rotate_left
        ·simp only [Act.put, sA, sZ, sS, i64_w, i32_w]
         rfl
        refine pure_ (i := 23) (N := some 69) (v := undef) (a' := ?_) (bl 37 16777215) rfl rfl (any_of HT_.out (by kernel_rfl)) (fun _ _ _ h => h) (Or.inr ⟨by rfl, rfl⟩) ?_ ?_
        rotate_left
        ·simp only [Act.put, sA, sZ, sS, i64_w, i32_w]
         rfl
        refine pure_ (i := 24) (N := some 70) (v := undef) (a' := ?_) (bl 37 33554431) rfl rfl (any_of HT_.out (by kernel_rfl)) (fun _ _ _ h => h) (Or.inr ⟨by rfl, rfl⟩) ?_ ?_
        rotate_left
        ·simp only [Act.put, sA, sZ, sS, i64_w, i32_w]
         rfl
        refine pure_ (i := 25) (N := some 71) (v := undef) (a' := ?_) (bl 37 67108863) rfl rfl (any_of HT_.out (by kernel_rfl)) (fun _ _ _ h => h) (Or.inr ⟨by rfl, rfl⟩) ?_ ?_
        rotate_left
        ·simp only [Act.put, sA, sZ, sS, i64_w, i32_w]
         rfl
        refine pure_ (i := 26) (N := some 72) (v := undef) (a' := ?_) (bl 37 134217727) rfl rfl (any_of HT_.out (by kernel_rfl)) (fun _ _ _ h => h) (Or.inr ⟨by rfl, rfl⟩) ?_ ?_
        rotate_left
        ·simp only [Act.put, sA, sZ, sS, i64_w, i32_w]
         rfl
        refine pure_ (i := 27) (N := some 73) (v := undef) (a' := ?_) (bl 37 268435455) rfl rfl (any_of HT_.out (by kernel_rfl)) (fun _ _ _ h => h) (Or.inr ⟨by rfl, rfl⟩) ?_ ?_
        rotate_left
        ·simp only [Act.put, sA, sZ, sS, i64_w, i32_w]
         rfl
        refine pure_ (i := 28) (N := some 74) (v := undef) (a' := ?_) (bl 37 536870911) rfl rfl (any_of HT_.out (by kernel_rfl)) (fun _ _ _ h => h) (Or.inr ⟨by rfl, rfl⟩) ?_ ?_
        rotate_left
        ·simp only [Act.put, sA, sZ, sS, i64_w, i32_w]
         rfl
        refine pure_ (i := 29) (N := some 75) (v := undef) (a' := ?_) (bl 37 1073741823) rfl rfl (any_of HT_.out (by kernel_rfl)) (fun _ _ _ h => h) (Or.inr ⟨by rfl, rfl⟩) ?_ ?_
        rotate_left
        ·simp only [Act.put, sA, sZ, sS, i64_w, i32_w]
         rfl
        refine pure_ (i := 30) (N := some 76) (v := undef) (a' := ?_) (bl 37 2147483647) rfl rfl (any_of HT_.out (by kernel_rfl)) (fun _ _ _ h => h) (Or.inr ⟨by rfl, rfl⟩) ?_ ?_
        rotate_left
        ·simp only [Act.put, sA, sZ, sS, i64_w, i32_w]
         rfl
        refine pure_ (i := 31) (N := some 77) (v := undef) (a' := ?_) (bl 37 4294967295) rfl rfl (any_of HT_.out (by kernel_rfl)) (fun _ _ _ h => h) (Or.inr ⟨by rfl, rfl⟩) ?_ ?_
        rotate_left
        ·simp only [Act.put, sA, sZ, sS, i64_w, i32_w]
         rfl
        refine pure_ (i := 32) (N := some 78) (v := undef) (a' := ?_) (bl 37 8589934591) rfl rfl (any_of HT_.out (by kernel_rfl)) (fun _ _ _ h => h) (Or.inr ⟨by rfl, rfl⟩) ?_ ?_
        rotate_left
        ·simp only [Act.put, sA, sZ, sS, i64_w, i32_w]
         rfl
        refine pure_ (i := 33) (N := some 79) (v := undef) (a' := ?_) (bl 37 17179869183) rfl rfl (any_of HT_.out (by kernel_rfl)) (fun _ _ _ h => h) (Or.inr ⟨by rfl, rfl⟩) ?_ ?_
        rotate_left
        ·simp only [Act.put, sA, sZ, sS, i64_w, i32_w]
         rfl
        refine pure_ (i := 34) (N := some 80) (v := undef) (a' := ?_) (bl 37 34359738367) rfl rfl (any_of HT_.out (by kernel_rfl)) (fun _ _ _ h => h) (Or.inr ⟨by rfl, rfl⟩) ?_ ?_
        rotate_left
        ·simp only [Act.put, sA, sZ, sS, i64_w, i32_w]
         rfl
        refine pure_ (i := 35) (N := some 81) (v := ?_) (a' := ?_) (bl 37 68719476735) rfl rfl (any_of HT_.out (by kernel_rfl)) (fun _ _ _ h => h) (Or.inl ⟨by rfl, ?_⟩) ?_ ?_
        rotate_left
        ·intro w'
         go_simp
         with_reducible rfl
        rotate_left
        ·simp only [Act.put, sA, sZ, sS, i64_w, i32_w]
         rfl
        refine pure_ (i := 36) (N := some 82) (v := ?_) (a' := ?_) (bl 37 137438953471) rfl rfl (any_of HT_.out (by kernel_rfl)) (fun _ _ _ h => h) (Or.inl ⟨by rfl, ?_⟩) ?_ ?_
        rotate_left
        ·intro w'
         go_simp
         with_reducible rfl
        rotate_left
        ·simp only [Act.put, sA, sZ, sS, i64_w, i32_w]
         rfl
        refine done_ (done_of HT_.out (by kernel_rfl)) ?_
        try go_wp2
        go_meet
        case rel => exact ⟨_, (false), (by first | rfl | (simp; done) | (simp [*]; done)), H', ⟨by have := HK1.out; have := HK2.out; first | omega | exact Nat.le_refl _⟩, ⟨by (with_reducible repeat (first | apply Kd.S_alloc | apply Kd.S_drewN | apply Kd.S_drew)); exact HO_4.out⟩, ⟨by (with_reducible repeat (first | refine bN ?_ _ | refine bD ?_ | refine bA ?_ _)); first | exact BK101.out | (rw [← Nbq27.out]; exact BK101.out) | (rw [← Nbq46.out]; exact BK101.out)⟩, ⟨by (with_reducible repeat (first | refine bN ?_ _ | refine bD ?_ | refine bA ?_ _)); first | exact BK110.out | (rw [← Nbq27.out]; exact BK110.out) | (rw [← Nbq46.out]; exact BK110.out)⟩, ⟨by repeat (first | (with_reducible first | exact HB.out | apply lA | apply lN | apply lD | refine lS ?_ GE101.out | refine lS ?_ GE110.out) | exact HB.out)⟩⟩
       rw [if_pos c44] at H
       have c44b0 : decide (((rd_T54 ((rd_T52 t104 x5_1).vars) x6_2).last) < 0) = true := decide_eq_true c44
       clear c44
       as_aux_lemma =>
       by_cases c45 : ((rd_T54 ((rd_T52 t104 x5_1).vars) x6_2).n) = 0
       rotate_left
       ·rw [if_neg c45] at H
        have c45b0 : (((rd_T54 ((rd_T52 t104 x5_1).vars) x6_2).n) == 0) = false := beq_eq_false_iff_ne.mpr c45
        have c45b1 : (((rd_T54 ((rd_T52 t104 x5_1).vars) x6_2).n) != 0) = true := bne_iff_ne.mpr c45
        have H' := am H
        clear H
        try go_wp2
        have n0_ : Aside0 (Kd.S k52 52 ((((w19.setCell ⟨gb110, 0, none⟩ (.string ((rd_T54 ((rd_T52 t104 x5_1).vars) x6_2).name))).setCell ⟨gb110, 1, none⟩ (.int .i64 ((rd_T54 ((rd_T52 t104 x5_1).vars) x6_2).n))).setCell ⟨gb110, 2, none⟩ (.int .i64 ((rd_T54 ((rd_T52 t104 x5_1).vars) x6_2).last))).setCell ⟨gb110, 3, none⟩ (.bool ((rd_T54 ((rd_T52 t104 x5_1).vars) x6_2).taint))) w.heap.size (fun k_ => k_ ≠ gb110) (.slice (some ad107) t104.length co13) t104) := ⟨by (with_reducible repeat (first | apply Kd.S_alloc | apply Kd.S_drewN | apply Kd.S_drew)); exact Kd.S_mono (Kd.S_far (p := ⟨gb110, 3, none⟩) (Kd.S_far (p := ⟨gb110, 2, none⟩) (Kd.S_far (p := ⟨gb110, 1, none⟩) (Kd.S_far (p := ⟨gb110, 0, none⟩) (Kd.S_mono HO_4.out (fun k_ hk => (⟨hk, hk.2⟩ : _ ∧ k_ ≠ gb110))) (fun _ hk => hk.2) _) (fun _ hk => hk.2) _) (fun _ hk => hk.2) _) (fun _ hk => hk.2) _) (fun _ hk => hk.1.2)⟩
        have n1_ : Aside0 (Kd.R k54 54 ((((w19.setCell ⟨gb110, 0, none⟩ (.string ((rd_T54 ((rd_T52 t104 x5_1).vars) x6_2).name))).setCell ⟨gb110, 1, none⟩ (.int .i64 ((rd_T54 ((rd_T52 t104 x5_1).vars) x6_2).n))).setCell ⟨gb110, 2, none⟩ (.int .i64 ((rd_T54 ((rd_T52 t104 x5_1).vars) x6_2).last))).setCell ⟨gb110, 3, none⟩ (.bool ((rd_T54 ((rd_T52 t104 x5_1).vars) x6_2).taint))) w.heap.size (fun k_ => some k_ ≠ (.slice (some ad107) t104.length co13 : Value).ownBlock ∧ k_ ≠ gb110) (.slice (some ad109) ((rd_T52 t104 x5_1).vars).length c107_1) ((rd_T52 t104 x5_1).vars)) := ⟨by (with_reducible repeat (first | apply Ra | apply Rn | apply Rd)); exact Kd.R_mono (Kd.R_far (p := ⟨gb110, 3, none⟩) (Kd.R_far (p := ⟨gb110, 2, none⟩) (Kd.R_far (p := ⟨gb110, 1, none⟩) (Kd.R_far (p := ⟨gb110, 0, none⟩) (Kd.R_mono HL107_1.out (fun k_ hk => (⟨hk, hk.2⟩ : _ ∧ k_ ≠ gb110))) (fun _ hk => hk.2) _) (fun _ hk => hk.2) _) (fun _ hk => hk.2) _) (fun _ hk => hk.2) _) (fun _ hk => ⟨hk.1.1.2, hk.1.2⟩)⟩
        have n2_ : Aside0 (Kd.R k54 54 ((((w19.setCell ⟨gb110, 0, none⟩ (.string ((rd_T54 ((rd_T52 t104 x5_1).vars) x6_2).name))).setCell ⟨gb110, 1, none⟩ (.int .i64 ((rd_T54 ((rd_T52 t104 x5_1).vars) x6_2).n))).setCell ⟨gb110, 2, none⟩ (.int .i64 ((rd_T54 ((rd_T52 t104 x5_1).vars) x6_2).last))).setCell ⟨gb110, 3, none⟩ (.bool ((rd_T54 ((rd_T52 t104 x5_1).vars) x6_2).taint))) w.heap.size (fun k_ => some k_ ≠ (.slice (some ad107) t104.length co13 : Value).ownBlock ∧ k_ ≠ gb110) (.slice (some ad109) ((rd_T52 t104 x5_1).vars).length c107_1) ((rd_T52 t104 x5_1).vars)) := ⟨by (with_reducible repeat (first | apply Ra | apply Rn | apply Rd)); exact Kd.R_mono (Kd.R_far (p := ⟨gb110, 3, none⟩) (Kd.R_far (p := ⟨gb110, 2, none⟩) (Kd.R_far (p := ⟨gb110, 1, none⟩) (Kd.R_far (p := ⟨gb110, 0, none⟩) (Kd.R_mono HL108_1.out (fun k_ hk => (⟨hk, hk.2⟩ : _ ∧ k_ ≠ gb110))) (fun _ hk => hk.2) _) (fun _ hk => hk.2) _) (fun _ hk => hk.2) _) (fun _ hk => hk.2) _) (fun _ hk => ⟨hk.1.1.2, hk.1.2⟩)⟩
        have n3_ : Aside0 (((((w19.setCell ⟨gb110, 0, none⟩ (.string ((rd_T54 ((rd_T52 t104 x5_1).vars) x6_2).name))).setCell ⟨gb110, 1, none⟩ (.int .i64 ((rd_T54 ((rd_T52 t104 x5_1).vars) x6_2).n))).setCell ⟨gb110, 2, none⟩ (.int .i64 ((rd_T54 ((rd_T52 t104 x5_1).vars) x6_2).last))).setCell ⟨gb110, 3, none⟩ (.bool ((rd_T54 ((rd_T52 t104 x5_1).vars) x6_2).taint))).heap[gb101]? = some (.cells #[.slice A0_0 l0_0.length c0_0, .slice A0_1 l0_1.length c0_1, .slice A0_2 l0_2.length c0_2, .int .i64 a0_3] 43 (0, 0))) := ⟨by repeat (first | (with_reducible first | exact BK101.out | refine bN ?_ _ | refine bD ?_ | refine bA ?_ _) | refine blk_far ?_ NB101_110.out _ | exact BK101.out)⟩
        have n4_ : Aside0 (((((w19.setCell ⟨gb110, 0, none⟩ (.string ((rd_T54 ((rd_T52 t104 x5_1).vars) x6_2).name))).setCell ⟨gb110, 1, none⟩ (.int .i64 ((rd_T54 ((rd_T52 t104 x5_1).vars) x6_2).n))).setCell ⟨gb110, 2, none⟩ (.int .i64 ((rd_T54 ((rd_T52 t104 x5_1).vars) x6_2).last))).setCell ⟨gb110, 3, none⟩ (.bool ((rd_T54 ((rd_T52 t104 x5_1).vars) x6_2).taint))).heap[gb110]? = some (.cells #[.string ((rd_T54 ((rd_T52 t104 x5_1).vars) x6_2).name), .int .i64 ((rd_T54 ((rd_T52 t104 x5_1).vars) x6_2).n), .int .i64 ((rd_T54 ((rd_T52 t104 x5_1).vars) x6_2).last), .bool ((rd_T54 ((rd_T52 t104 x5_1).vars) x6_2).taint)] 54 (0, 0))) := ⟨by (with_reducible repeat (first | refine bN ?_ _ | refine bD ?_ | refine bA ?_ _)); refine blk_put (cs := #[.string ((rd_T54 ((rd_T52 t104 x5_1).vars) x6_2).name), .int .i64 ((rd_T54 ((rd_T52 t104 x5_1).vars) x6_2).n), .int .i64 ((rd_T54 ((rd_T52 t104 x5_1).vars) x6_2).last), .bool false]) ?_ 3 _ rfl; (with_reducible repeat (first | refine bN ?_ _ | refine bD ?_ | refine bA ?_ _)); refine blk_put (cs := #[.string ((rd_T54 ((rd_T52 t104 x5_1).vars) x6_2).name), .int .i64 ((rd_T54 ((rd_T52 t104 x5_1).vars) x6_2).n), .int .i64 0, .bool false]) ?_ 2 _ rfl; (with_reducible repeat (first | refine bN ?_ _ | refine bD ?_ | refine bA ?_ _)); refine blk_put (cs := #[.string ((rd_T54 ((rd_T52 t104 x5_1).vars) x6_2).name), .int .i64 0, .int .i64 0, .bool false]) ?_ 1 _ rfl; (with_reducible repeat (first | refine bN ?_ _ | refine bD ?_ | refine bA ?_ _)); refine blk_put (cs := #[.string (⟨#[]⟩ : ByteArray), .int .i64 0, .int .i64 0, .bool false]) ?_ 0 _ rfl; (with_reducible repeat (first | refine bN ?_ _ | refine bD ?_ | refine bA ?_ _)); exact BK110.out⟩
        have n5_ : Aside0 (Below w.heap.size w ((((w19.setCell ⟨gb110, 0, none⟩ (.string ((rd_T54 ((rd_T52 t104 x5_1).vars) x6_2).name))).setCell ⟨gb110, 1, none⟩ (.int .i64 ((rd_T54 ((rd_T52 t104 x5_1).vars) x6_2).n))).setCell ⟨gb110, 2, none⟩ (.int .i64 ((rd_T54 ((rd_T52 t104 x5_1).vars) x6_2).last))).setCell ⟨gb110, 3, none⟩ (.bool ((rd_T54 ((rd_T52 t104 x5_1).vars) x6_2).taint)))) := ⟨by repeat (first | (with_reducible first | exact HB.out | apply lA | apply lN | apply lD | refine lS ?_ GE101.out | refine lS ?_ GE110.out) | exact HB.out)⟩
        (try clear HO_4)
        (try clear HL107_1)
        (try clear HL108_1)
        (try clear BK101)
        (try clear BK110)
        (try clear HB)
        generalize ((((w19.setCell ⟨gb110, 0, none⟩ (.string ((rd_T54 ((rd_T52 t104 x5_1).vars) x6_2).name))).setCell ⟨gb110, 1, none⟩ (.int .i64 ((rd_T54 ((rd_T52 t104 x5_1).vars) x6_2).n))).setCell ⟨gb110, 2, none⟩ (.int .i64 ((rd_T54 ((rd_T52 t104 x5_1).vars) x6_2).last))).setCell ⟨gb110, 3, none⟩ (.bool ((rd_T54 ((rd_T52 t104 x5_1).vars) x6_2).taint))) = w52 at n0_ n1_ n2_ n3_ n4_ n5_ ⊢
        have HO_4 := n0_
        have HL107_1 := n1_
        have HL108_1 := n2_
        have BK101 := n3_
        have BK110 := n4_
        have HB := n5_
        clear n0_ n1_ n2_ n3_ n4_ n5_
        replace HO_4 := am (Kd.S_drew HO_4.out)
        replace HL107_1 := am (Kd.R_drew HL107_1.out)
        replace HL108_1 := am (Kd.R_drew HL108_1.out)
        replace BK101 := am (blk_drew BK101.out)
        replace BK110 := am (blk_drew BK110.out)
        replace HB := am (below_drew1 HB.out)
        refine start_ (n := 37) (S := fun w' => w'.cell? ⟨gb110, 0, none⟩ = some (.string ((rd_T54 ((rd_T52 t104 x5_1).vars) x6_2).name)) ∧ w'.cell? ⟨gb110, 1, none⟩ = some (.int .i64 ((rd_T54 ((rd_T52 t104 x5_1).vars) x6_2).n)) ∧ w'.cell? ⟨gb110, 2, none⟩ = some (.int .i64 ((rd_T54 ((rd_T52 t104 x5_1).vars) x6_2).last)) ∧ w'.cell? ⟨gb110, 3, none⟩ = some (.bool ((rd_T54 ((rd_T52 t104 x5_1).vars) x6_2).taint))) (ds := []) (bl 37 0) (by kernel_rfl) rfl rfl ⟨(blk_cell BK110.out 0).trans rfl, (blk_cell BK110.out 1).trans rfl, (blk_cell BK110.out 2).trans rfl, (blk_cell BK110.out 3).trans rfl⟩ (fun hHeld => ?_); refine with_tabW lambrequinlaw22_InterpReaches.tab12 lambrequinlaw22_InterpReaches.bits12 (fun HT_ HW_ => ?_)
        generalize w52.drew = w53 at HO_4 HL107_1 HL108_1 BK101 BK110 HB hHeld ⊢
        refine pure_ (i := 0) (N := some 46) (v := ?_) (a' := ?_) (bl 37 1) rfl rfl (any_of HT_.out (by kernel_rfl)) (fun _ _ _ h => h) (Or.inl ⟨by rfl, ?_⟩) ?_ ?_
        rotate_left
        ·intro w'
         go_simp
         with_reducible rfl
        rotate_left
        ·simp only [Act.put, sA, sZ, sS, i64_w, i32_w]
         rfl
        refine take_ (i := 1) (N := some 47) (v := ?_) (a' := ?_) (bl 37 3) rfl rfl (take_ofW HT_.out HW_.out (by kernel_rfl)) (fun _ _ _ h => h) (Or.inl ⟨by rfl, ?_⟩) hHeld ?_ ?_
        rotate_left
        ·rintro w' ⟨s0, s1, s2, s3⟩
         go_simp
         with_reducible rfl
        rotate_left
        ·simp only [Act.put, sA, sZ, sS, i64_w, i32_w]
         rfl
        refine pure_ (i := 2) (N := some 48) (v := ?_) (a' := ?_) (bl 37 7) rfl rfl (any_of HT_.out (by kernel_rfl)) (fun _ _ _ h => h) (Or.inl ⟨by rfl, ?_⟩) ?_ ?_
        rotate_left
        ·intro w'
         go_simp
         with_reducible rfl
        rotate_left
        ·simp only [Act.put, sA, sZ, sS, i64_w, i32_w]
         rfl
        refine pure_ (i := 3) (N := some 49) (v := ?_) (a' := ?_) (bl 37 15) rfl rfl (any_of HT_.out (by kernel_rfl)) (fun _ _ _ h => h) (Or.inl ⟨by rfl, ?_⟩) ?_ ?_
        rotate_left
        ·intro w'
         go_simp
         with_reducible rfl
        rotate_left
        ·simp only [Act.put, sA, sZ, sS, i64_w, i32_w]
         rfl
        refine pure_ (i := 4) (N := some 50) (v := undef) (a' := ?_) (bl 37 31) rfl rfl (any_of HT_.out (by kernel_rfl)) (fun _ _ _ h => h) (Or.inr ⟨by rfl, rfl⟩) ?_ ?_
        rotate_left
        ·simp only [Act.put, sA, sZ, sS, i64_w, i32_w]
         rfl
        refine pure_ (i := 5) (N := some 51) (v := undef) (a' := ?_) (bl 37 63) rfl rfl (any_of HT_.out (by kernel_rfl)) (fun _ _ _ h => h) (Or.inr ⟨by rfl, rfl⟩) ?_ ?_
        rotate_left
        ·simp only [Act.put, sA, sZ, sS, i64_w, i32_w]
         rfl
        refine pure_ (i := 6) (N := some 52) (v := undef) (a' := ?_) (bl 37 127) rfl rfl (any_of HT_.out (by kernel_rfl)) (fun _ _ _ h => h) (Or.inr ⟨by rfl, rfl⟩) ?_ ?_
        rotate_left
        ·simp only [Act.put, sA, sZ, sS, i64_w, i32_w]
         rfl
        refine pure_ (i := 7) (N := some 53) (v := undef) (a' := ?_) (bl 37 255) rfl rfl (any_of HT_.out (by kernel_rfl)) (fun _ _ _ h => h) (Or.inr ⟨by rfl, rfl⟩) ?_ ?_
        rotate_left
        ·simp only [Act.put, sA, sZ, sS, i64_w, i32_w]
         rfl
        refine pure_ (i := 8) (N := some 54) (v := undef) (a' := ?_) (bl 37 511) rfl rfl (any_of HT_.out (by kernel_rfl)) (fun _ _ _ h => h) (Or.inr ⟨by rfl, rfl⟩) ?_ ?_
        rotate_left
        ·simp only [Act.put, sA, sZ, sS, i64_w, i32_w]
         rfl
        refine pure_ (i := 9) (N := some 55) (v := undef) (a' := ?_) (bl 37 1023) rfl rfl (any_of HT_.out (by kernel_rfl)) (fun _ _ _ h => h) (Or.inr ⟨by rfl, rfl⟩) ?_ ?_
        rotate_left
        ·simp only [Act.put, sA, sZ, sS, i64_w, i32_w]
         rfl
        refine pure_ (i := 10) (N := some 56) (v := undef) (a' := ?_) (bl 37 2047) rfl rfl (any_of HT_.out (by kernel_rfl)) (fun _ _ _ h => h) (Or.inr ⟨by rfl, rfl⟩) ?_ ?_
        rotate_left
        ·simp only [Act.put, sA, sZ, sS, i64_w, i32_w]
         rfl
        refine pure_ (i := 11) (N := some 57) (v := undef) (a' := ?_) (bl 37 4095) rfl rfl (any_of HT_.out (by kernel_rfl)) (fun _ _ _ h => h) (Or.inr ⟨by rfl, rfl⟩) ?_ ?_
        rotate_left
        ·simp only [Act.put, sA, sZ, sS, i64_w, i32_w]
         rfl
        refine pure_ (i := 12) (N := some 58) (v := undef) (a' := ?_) (bl 37 8191) rfl rfl (any_of HT_.out (by kernel_rfl)) (fun _ _ _ h => h) (Or.inr ⟨by rfl, rfl⟩) ?_ ?_
        rotate_left
        ·simp only [Act.put, sA, sZ, sS, i64_w, i32_w]
         rfl
        refine pure_ (i := 13) (N := some 59) (v := undef) (a' := ?_) (bl 37 16383) rfl rfl (any_of HT_.out (by kernel_rfl)) (fun _ _ _ h => h) (Or.inr ⟨by rfl, rfl⟩) ?_ ?_
        rotate_left
        ·simp only [Act.put, sA, sZ, sS, i64_w, i32_w]
         rfl
        refine pure_ (i := 14) (N := some 60) (v := undef) (a' := ?_) (bl 37 32767) rfl rfl (any_of HT_.out (by kernel_rfl)) (fun _ _ _ h => h) (Or.inr ⟨by rfl, rfl⟩) ?_ ?_
        rotate_left
        ·simp only [Act.put, sA, sZ, sS, i64_w, i32_w]
         rfl
        refine pure_ (i := 15) (N := some 61) (v := undef) (a' := ?_) (bl 37 65535) rfl rfl (any_of HT_.out (by kernel_rfl)) (fun _ _ _ h => h) (Or.inr ⟨by rfl, rfl⟩) ?_ ?_
        rotate_left
        ·simp only [Act.put, sA, sZ, sS, i64_w, i32_w]
         rfl
        refine pure_ (i := 16) (N := some 62) (v := undef) (a' := ?_) (bl 37 131071) rfl rfl (any_of HT_.out (by kernel_rfl)) (fun _ _ _ h => h) (Or.inr ⟨by rfl, rfl⟩) ?_ ?_
        rotate_left
        ·simp only [Act.put, sA, sZ, sS, i64_w, i32_w]
         rfl
        refine pure_ (i := 17) (N := some 63) (v := ?_) (a' := ?_) (bl 37 262143) rfl rfl (any_of HT_.out (by kernel_rfl)) (fun _ _ _ h => h) (Or.inl ⟨by rfl, ?_⟩) ?_ ?_
        rotate_left
        ·intro w'
         go_simp
         with_reducible rfl
        rotate_left
        ·simp only [Act.put, sA, sZ, sS, i64_w, i32_w]
         rfl
        refine pure_ (i := 18) (N := some 64) (v := ?_) (a' := ?_) (bl 37 524287) rfl rfl (any_of HT_.out (by kernel_rfl)) (fun _ _ _ h => h) (Or.inl ⟨by rfl, ?_⟩) ?_ ?_
        rotate_left
        ·intro w'
         go_simp
         with_reducible rfl
        rotate_left
        ·simp only [Act.put, sA, sZ, sS, i64_w, i32_w]
         rfl
        refine pure_ (i := 19) (N := some 65) (v := ?_) (a' := ?_) (bl 37 1048575) rfl rfl (any_of HT_.out (by kernel_rfl)) (fun _ _ _ h => h) (Or.inl ⟨by rfl, ?_⟩) ?_ ?_
        rotate_left
        ·intro w'
         go_simp
         with_reducible rfl
        rotate_left
        ·simp only [Act.put, sA, sZ, sS, i64_w, i32_w]
         rfl
        refine take_ (i := 20) (N := some 66) (v := ?_) (a' := ?_) (bl 37 2097151) rfl rfl (take_ofW HT_.out HW_.out (by kernel_rfl)) (fun _ _ _ h => h) (Or.inl ⟨by rfl, ?_⟩) hHeld ?_ ?_
        rotate_left
        ·rintro w' ⟨s0, s1, s2, s3⟩
         go_simp
         with_reducible rfl
        rotate_left
        ·simp only [Act.put, sA, sZ, sS, i64_w, i32_w]
         rfl
        refine pure_ (i := 21) (N := some 67) (v := ?_) (a' := ?_) (bl 37 4194303) rfl rfl (any_of HT_.out (by kernel_rfl)) (fun _ _ _ h => h) (Or.inl ⟨by rfl, ?_⟩) ?_ ?_
        rotate_left
        ·intro w'
         go_simp
         with_reducible rfl
        rotate_left
        ·simp only [Act.put, sA, sZ, sS, i64_w, i32_w]
         rfl
        refine pure_ (i := 22) (N := some 68) (v := ?_) (a' := ?_) (bl 37 8388607) rfl rfl (any_of HT_.out (by kernel_rfl)) (fun _ _ _ h => h) (Or.inl ⟨by rfl, ?_⟩) ?_ ?_
        rotate_left
        ·intro w'
         go_simp
         with_reducible rfl
        rotate_left
        ·simp only [Act.put, sA, sZ, sS, i64_w, i32_w]
         rfl
        refine pure_ (i := 23) (N := some 69) (v := ?_) (a' := ?_) (bl 37 16777215) rfl rfl (any_of HT_.out (by kernel_rfl)) (fun _ _ _ h => h) (Or.inl ⟨by rfl, ?_⟩) ?_ ?_
        rotate_left
        ·intro w'
         go_simp
         with_reducible rfl
        rotate_left
        ·simp only [Act.put, sA, sZ, sS, i64_w, i32_w]
         rfl
        refine take_ (i := 24) (N := some 70) (v := ?_) (a' := ?_) (bl 37 33554431) rfl rfl (take_ofW HT_.out HW_.out (by kernel_rfl)) (fun _ _ _ h => h) (Or.inl ⟨by rfl, ?_⟩) hHeld ?_ ?_
        rotate_left
        ·rintro w' ⟨s0, s1, s2, s3⟩
         go_simp
         with_reducible rfl
        rotate_left
        ·simp only [Act.put, sA, sZ, sS, i64_w, i32_w]
         rfl
        refine pure_ (i := 25) (N := some 71) (v := ?_) (a' := ?_) (bl 37 67108863) rfl rfl (any_of HT_.out (by kernel_rfl)) (fun _ _ _ h => h) (Or.inl ⟨by rfl, ?_⟩) ?_ ?_
        rotate_left
        ·intro w'
         go_simp
         with_reducible rfl
        rotate_left
        ·simp only [Act.put, sA, sZ, sS, i64_w, i32_w]
         rfl
        refine pure_ (i := 26) (N := some 72) (v := ?_) (a' := ?_) (bl 37 134217727) rfl rfl (any_of HT_.out (by kernel_rfl)) (fun _ _ _ h => h) (Or.inl ⟨by rfl, ?_⟩) ?_ ?_
        rotate_left
        ·intro w'
         go_simp
         with_reducible rfl
        rotate_left
        ·simp only [Act.put, sA, sZ, sS, i64_w, i32_w]
         rfl
        refine pure_ (i := 27) (N := some 73) (v := undef) (a' := ?_) (bl 37 268435455) rfl rfl (any_of HT_.out (by kernel_rfl)) (fun _ _ _ h => h) (Or.inr ⟨by rfl, rfl⟩) ?_ ?_
        rotate_left
        ·simp only [Act.put, sA, sZ, sS, i64_w, i32_w]
         rfl
        refine pure_ (i := 28) (N := some 74) (v := undef) (a' := ?_) (bl 37 536870911) rfl rfl (any_of HT_.out (by kernel_rfl)) (fun _ _ _ h => h) (Or.inr ⟨by rfl, rfl⟩) ?_ ?_
        rotate_left
        ·simp only [Act.put, sA, sZ, sS, i64_w, i32_w]
         rfl
        refine pure_ (i := 29) (N := some 75) (v := ?_) (a' := ?_) (bl 37 1073741823) rfl rfl (any_of HT_.out (by kernel_rfl)) (fun _ _ _ h => h) (Or.inl ⟨by rfl, ?_⟩) ?_ ?_
        rotate_left
        ·intro w'
         go_simp
         with_reducible rfl
        rotate_left
        ·simp only [Act.put, sA, sZ, sS, i64_w, i32_w]
         rfl
        refine pure_ (i := 30) (N := some 76) (v := ?_) (a' := ?_) (bl 37 2147483647) rfl rfl (any_of HT_.out (by kernel_rfl)) (fun _ _ _ h => h) (Or.inl ⟨by rfl, ?_⟩) ?_ ?_
        rotate_left
        ·intro w'
         go_simp
         with_reducible rfl
        rotate_left
        ·simp only [Act.put, sA, sZ, sS, i64_w, i32_w]
         rfl
        refine pure_ (i := 31) (N := some 77) (v := undef) (a' := ?_) (bl 37 4294967295) rfl rfl (any_of HT_.out (by kernel_rfl)) (fun _ _ _ h => h) (Or.inr ⟨by rfl, rfl⟩) ?_ ?_
        rotate_left
        ·simp only [Act.put, sA, sZ, sS, i64_w, i32_w]
         rfl
        refine pure_ (i := 32) (N := some 78) (v := undef) (a' := ?_) (bl 37 8589934591) rfl rfl (any_of HT_.out (by kernel_rfl)) (fun _ _ _ h => h) (Or.inr ⟨by rfl, rfl⟩) ?_ ?_
        rotate_left
        ·simp only [Act.put, sA, sZ, sS, i64_w, i32_w]
         rfl
        refine pure_ (i := 33) (N := some 79) (v := undef) (a' := ?_) (bl 37 17179869183) rfl rfl (any_of HT_.out (by kernel_rfl)) (fun _ _ _ h => h) (Or.inr ⟨by rfl, rfl⟩) ?_ ?_
        rotate_left
        ·simp only [Act.put, sA, sZ, sS, i64_w, i32_w]
         rfl
        refine pure_ (i := 34) (N := some 80) (v := ?_) (a' := ?_) (bl 37 34359738367) rfl rfl (any_of HT_.out (by kernel_rfl)) (fun _ _ _ h => h) (Or.inl ⟨by rfl, ?_⟩) ?_ ?_
        rotate_left
        ·intro w'
         go_simp
         with_reducible rfl
        rotate_left
        ·simp only [Act.put, sA, sZ, sS, i64_w, i32_w]
         rfl
        refine pure_ (i := 35) (N := some 81) (v := ?_) (a' := ?_) (bl 37 68719476735) rfl rfl (any_of HT_.out (by kernel_rfl)) (fun _ _ _ h => h) (Or.inl ⟨by rfl, ?_⟩) ?_ ?_
        rotate_left
        ·intro w'
         go_simp
         with_reducible rfl
        rotate_left
        ·simp only [Act.put, sA, sZ, sS, i64_w, i32_w]
         rfl
        refine pure_ (i := 36) (N := some 82) (v := ?_) (a' := ?_) (bl 37 137438953471) rfl rfl (any_of HT_.out (by kernel_rfl)) (fun _ _ _ h => h) (Or.inl ⟨by rfl, ?_⟩) ?_ ?_
        rotate_left
        ·intro w'
         go_simp
         with_reducible rfl
        rotate_left
        ·simp only [Act.put, sA, sZ, sS, i64_w, i32_w]
         rfl
        refine done_ (done_of HT_.out (by kernel_rfl)) ?_
        try go_wp2
        go_meet
        case rel => exact ⟨_, (true), (by first | rfl | (simp; done) | (simp [*]; done)), H', ⟨by have := HK1.out; have := HK2.out; first | omega | exact Nat.le_refl _⟩, ⟨by (with_reducible repeat (first | apply Kd.S_alloc | apply Kd.S_drewN | apply Kd.S_drew)); exact HO_4.out⟩, ⟨by (with_reducible repeat (first | refine bN ?_ _ | refine bD ?_ | refine bA ?_ _)); first | exact BK101.out | (rw [← Nbq27.out]; exact BK101.out) | (rw [← Nbq46.out]; exact BK101.out)⟩, ⟨by (with_reducible repeat (first | refine bN ?_ _ | refine bD ?_ | refine bA ?_ _)); first | exact BK110.out | (rw [← Nbq27.out]; exact BK110.out) | (rw [← Nbq46.out]; exact BK110.out)⟩, ⟨by repeat (first | (with_reducible first | exact HB.out | apply lA | apply lN | apply lD | refine lS ?_ GE101.out | refine lS ?_ GE110.out) | exact HB.out)⟩⟩
       rw [if_pos c45] at H
       have c45b0 : (((rd_T54 ((rd_T52 t104 x5_1).vars) x6_2).n) == 0) = true := beq_iff_eq.mpr c45
       have c45b1 : (((rd_T54 ((rd_T52 t104 x5_1).vars) x6_2).n) != 0) = false := bne_eq_false_iff_eq.mpr c45
       clear c45
       obtain ⟨bq46, hbq46⟩ : ∃ b_ : Bool, b_ = ((rd_T54 ((rd_T52 t104 x5_1).vars) x6_2).taint) := ⟨_, rfl⟩
       replace H : (if bq46 = true then (lambrequinlaw22_InterpReaches.j2 k2 t102 t104 x5_1 x6_2 true l0_0 l0_1 l0_2 a0_3) else (lambrequinlaw22_InterpReaches.j2 k2 t102 t104 x5_1 x6_2 (((rd_T54 ((rd_T52 t104 x5_1).vars) x6_2).last) != (-1)) l0_0 l0_1 l0_2 a0_3)) = some r := by rw [← hbq46] at H; exact H
       have Nbq46 := am hbq46
       clear hbq46
       as_aux_lemma =>
       by_cases c47 : bq46 = true
       ·subst c47
        (try rw [← Nbq46.out])
        have H1 : (lambrequinlaw22_InterpReaches.j2 k2 t102 t104 x5_1 x6_2 true l0_0 l0_1 l0_2 a0_3) = some r := by rw [if_pos rfl] at H; exact H
        clear H
        have H := H1
        clear H1
        have H' := am H
        clear H
        try go_wp2
        have n0_ : Aside0 (Kd.S k52 52 ((((w19.setCell ⟨gb110, 0, none⟩ (.string ((rd_T54 ((rd_T52 t104 x5_1).vars) x6_2).name))).setCell ⟨gb110, 1, none⟩ (.int .i64 ((rd_T54 ((rd_T52 t104 x5_1).vars) x6_2).n))).setCell ⟨gb110, 2, none⟩ (.int .i64 ((rd_T54 ((rd_T52 t104 x5_1).vars) x6_2).last))).setCell ⟨gb110, 3, none⟩ (.bool (true))) w.heap.size (fun k_ => k_ ≠ gb110) (.slice (some ad107) t104.length co13) t104) := ⟨by (with_reducible repeat (first | apply Kd.S_alloc | apply Kd.S_drewN | apply Kd.S_drew)); exact Kd.S_mono (Kd.S_far (p := ⟨gb110, 3, none⟩) (Kd.S_far (p := ⟨gb110, 2, none⟩) (Kd.S_far (p := ⟨gb110, 1, none⟩) (Kd.S_far (p := ⟨gb110, 0, none⟩) (Kd.S_mono HO_4.out (fun k_ hk => (⟨hk, hk.2⟩ : _ ∧ k_ ≠ gb110))) (fun _ hk => hk.2) _) (fun _ hk => hk.2) _) (fun _ hk => hk.2) _) (fun _ hk => hk.2) _) (fun _ hk => hk.1.2)⟩
        have n1_ : Aside0 (Kd.R k54 54 ((((w19.setCell ⟨gb110, 0, none⟩ (.string ((rd_T54 ((rd_T52 t104 x5_1).vars) x6_2).name))).setCell ⟨gb110, 1, none⟩ (.int .i64 ((rd_T54 ((rd_T52 t104 x5_1).vars) x6_2).n))).setCell ⟨gb110, 2, none⟩ (.int .i64 ((rd_T54 ((rd_T52 t104 x5_1).vars) x6_2).last))).setCell ⟨gb110, 3, none⟩ (.bool (true))) w.heap.size (fun k_ => some k_ ≠ (.slice (some ad107) t104.length co13 : Value).ownBlock ∧ k_ ≠ gb110) (.slice (some ad109) ((rd_T52 t104 x5_1).vars).length c107_1) ((rd_T52 t104 x5_1).vars)) := ⟨by (with_reducible repeat (first | apply Ra | apply Rn | apply Rd)); exact Kd.R_mono (Kd.R_far (p := ⟨gb110, 3, none⟩) (Kd.R_far (p := ⟨gb110, 2, none⟩) (Kd.R_far (p := ⟨gb110, 1, none⟩) (Kd.R_far (p := ⟨gb110, 0, none⟩) (Kd.R_mono HL107_1.out (fun k_ hk => (⟨hk, hk.2⟩ : _ ∧ k_ ≠ gb110))) (fun _ hk => hk.2) _) (fun _ hk => hk.2) _) (fun _ hk => hk.2) _) (fun _ hk => hk.2) _) (fun _ hk => ⟨hk.1.1.2, hk.1.2⟩)⟩
        have n2_ : Aside0 (Kd.R k54 54 ((((w19.setCell ⟨gb110, 0, none⟩ (.string ((rd_T54 ((rd_T52 t104 x5_1).vars) x6_2).name))).setCell ⟨gb110, 1, none⟩ (.int .i64 ((rd_T54 ((rd_T52 t104 x5_1).vars) x6_2).n))).setCell ⟨gb110, 2, none⟩ (.int .i64 ((rd_T54 ((rd_T52 t104 x5_1).vars) x6_2).last))).setCell ⟨gb110, 3, none⟩ (.bool (true))) w.heap.size (fun k_ => some k_ ≠ (.slice (some ad107) t104.length co13 : Value).ownBlock ∧ k_ ≠ gb110) (.slice (some ad109) ((rd_T52 t104 x5_1).vars).length c107_1) ((rd_T52 t104 x5_1).vars)) := ⟨by (with_reducible repeat (first | apply Ra | apply Rn | apply Rd)); exact Kd.R_mono (Kd.R_far (p := ⟨gb110, 3, none⟩) (Kd.R_far (p := ⟨gb110, 2, none⟩) (Kd.R_far (p := ⟨gb110, 1, none⟩) (Kd.R_far (p := ⟨gb110, 0, none⟩) (Kd.R_mono HL108_1.out (fun k_ hk => (⟨hk, hk.2⟩ : _ ∧ k_ ≠ gb110))) (fun _ hk => hk.2) _) (fun _ hk => hk.2) _) (fun _ hk => hk.2) _) (fun _ hk => hk.2) _) (fun _ hk => ⟨hk.1.1.2, hk.1.2⟩)⟩
        have n3_ : Aside0 (((((w19.setCell ⟨gb110, 0, none⟩ (.string ((rd_T54 ((rd_T52 t104 x5_1).vars) x6_2).name))).setCell ⟨gb110, 1, none⟩ (.int .i64 ((rd_T54 ((rd_T52 t104 x5_1).vars) x6_2).n))).setCell ⟨gb110, 2, none⟩ (.int .i64 ((rd_T54 ((rd_T52 t104 x5_1).vars) x6_2).last))).setCell ⟨gb110, 3, none⟩ (.bool (true))).heap[gb101]? = some (.cells #[.slice A0_0 l0_0.length c0_0, .slice A0_1 l0_1.length c0_1, .slice A0_2 l0_2.length c0_2, .int .i64 a0_3] 43 (0, 0))) := ⟨by repeat (first | (with_reducible first | exact BK101.out | refine bN ?_ _ | refine bD ?_ | refine bA ?_ _) | refine blk_far ?_ NB101_110.out _ | exact BK101.out)⟩
        have n4_ : Aside0 (((((w19.setCell ⟨gb110, 0, none⟩ (.string ((rd_T54 ((rd_T52 t104 x5_1).vars) x6_2).name))).setCell ⟨gb110, 1, none⟩ (.int .i64 ((rd_T54 ((rd_T52 t104 x5_1).vars) x6_2).n))).setCell ⟨gb110, 2, none⟩ (.int .i64 ((rd_T54 ((rd_T52 t104 x5_1).vars) x6_2).last))).setCell ⟨gb110, 3, none⟩ (.bool (true))).heap[gb110]? = some (.cells #[.string ((rd_T54 ((rd_T52 t104 x5_1).vars) x6_2).name), .int .i64 ((rd_T54 ((rd_T52 t104 x5_1).vars) x6_2).n), .int .i64 ((rd_T54 ((rd_T52 t104 x5_1).vars) x6_2).last), .bool true] 54 (0, 0))) := ⟨by (with_reducible repeat (first | refine bN ?_ _ | refine bD ?_ | refine bA ?_ _)); refine blk_put (cs := #[.string ((rd_T54 ((rd_T52 t104 x5_1).vars) x6_2).name), .int .i64 ((rd_T54 ((rd_T52 t104 x5_1).vars) x6_2).n), .int .i64 ((rd_T54 ((rd_T52 t104 x5_1).vars) x6_2).last), .bool false]) ?_ 3 _ rfl; (with_reducible repeat (first | refine bN ?_ _ | refine bD ?_ | refine bA ?_ _)); refine blk_put (cs := #[.string ((rd_T54 ((rd_T52 t104 x5_1).vars) x6_2).name), .int .i64 ((rd_T54 ((rd_T52 t104 x5_1).vars) x6_2).n), .int .i64 0, .bool false]) ?_ 2 _ rfl; (with_reducible repeat (first | refine bN ?_ _ | refine bD ?_ | refine bA ?_ _)); refine blk_put (cs := #[.string ((rd_T54 ((rd_T52 t104 x5_1).vars) x6_2).name), .int .i64 0, .int .i64 0, .bool false]) ?_ 1 _ rfl; (with_reducible repeat (first | refine bN ?_ _ | refine bD ?_ | refine bA ?_ _)); refine blk_put (cs := #[.string (⟨#[]⟩ : ByteArray), .int .i64 0, .int .i64 0, .bool false]) ?_ 0 _ rfl; (with_reducible repeat (first | refine bN ?_ _ | refine bD ?_ | refine bA ?_ _)); exact BK110.out⟩
        have n5_ : Aside0 (Below w.heap.size w ((((w19.setCell ⟨gb110, 0, none⟩ (.string ((rd_T54 ((rd_T52 t104 x5_1).vars) x6_2).name))).setCell ⟨gb110, 1, none⟩ (.int .i64 ((rd_T54 ((rd_T52 t104 x5_1).vars) x6_2).n))).setCell ⟨gb110, 2, none⟩ (.int .i64 ((rd_T54 ((rd_T52 t104 x5_1).vars) x6_2).last))).setCell ⟨gb110, 3, none⟩ (.bool (true)))) := ⟨by repeat (first | (with_reducible first | exact HB.out | apply lA | apply lN | apply lD | refine lS ?_ GE101.out | refine lS ?_ GE110.out) | exact HB.out)⟩
        (try clear HO_4)
        (try clear HL107_1)
        (try clear HL108_1)
        (try clear BK101)
        (try clear BK110)
        (try clear HB)
        generalize ((((w19.setCell ⟨gb110, 0, none⟩ (.string ((rd_T54 ((rd_T52 t104 x5_1).vars) x6_2).name))).setCell ⟨gb110, 1, none⟩ (.int .i64 ((rd_T54 ((rd_T52 t104 x5_1).vars) x6_2).n))).setCell ⟨gb110, 2, none⟩ (.int .i64 ((rd_T54 ((rd_T52 t104 x5_1).vars) x6_2).last))).setCell ⟨gb110, 3, none⟩ (.bool (true))) = w48 at n0_ n1_ n2_ n3_ n4_ n5_ ⊢
        have HO_4 := n0_
        have HL107_1 := n1_
        have HL108_1 := n2_
        have BK101 := n3_
        have BK110 := n4_
        have HB := n5_
        clear n0_ n1_ n2_ n3_ n4_ n5_
        replace HO_4 := am (Kd.S_drew HO_4.out)
        replace HL107_1 := am (Kd.R_drew HL107_1.out)
        replace HL108_1 := am (Kd.R_drew HL108_1.out)
        replace BK101 := am (blk_drew BK101.out)
        replace BK110 := am (blk_drew BK110.out)
        replace HB := am (below_drew1 HB.out)
        refine start_ (n := 37) (S := fun w' => w'.cell? ⟨gb110, 0, none⟩ = some (.string ((rd_T54 ((rd_T52 t104 x5_1).vars) x6_2).name)) ∧ w'.cell? ⟨gb110, 1, none⟩ = some (.int .i64 ((rd_T54 ((rd_T52 t104 x5_1).vars) x6_2).n)) ∧ w'.cell? ⟨gb110, 2, none⟩ = some (.int .i64 ((rd_T54 ((rd_T52 t104 x5_1).vars) x6_2).last)) ∧ w'.cell? ⟨gb110, 3, none⟩ = some (.bool true)) (ds := []) (bl 37 0) (by kernel_rfl) rfl rfl ⟨(blk_cell BK110.out 0).trans rfl, (blk_cell BK110.out 1).trans rfl, (blk_cell BK110.out 2).trans rfl, (blk_cell BK110.out 3).trans rfl⟩ (fun hHeld => ?_); refine with_tabW lambrequinlaw22_InterpReaches.tab12 lambrequinlaw22_InterpReaches.bits12 (fun HT_ HW_ => ?_)
        generalize w48.drew = w49 at HO_4 HL107_1 HL108_1 BK101 BK110 HB hHeld ⊢
        refine pure_ (i := 0) (N := some 46) (v := ?_) (a' := ?_) (bl 37 1) rfl rfl (any_of HT_.out (by kernel_rfl)) (fun _ _ _ h => h) (Or.inl ⟨by rfl, ?_⟩) ?_ ?_
        rotate_left
        ·intro w'
         go_simp
         with_reducible rfl
        rotate_left
        ·simp only [Act.put, sA, sZ, sS, i64_w, i32_w]
         rfl
        refine take_ (i := 1) (N := some 47) (v := ?_) (a' := ?_) (bl 37 3) rfl rfl (take_ofW HT_.out HW_.out (by kernel_rfl)) (fun _ _ _ h => h) (Or.inl ⟨by rfl, ?_⟩) hHeld ?_ ?_
        rotate_left
        ·rintro w' ⟨s0, s1, s2, s3⟩
         go_simp
         with_reducible rfl
        rotate_left
        ·simp only [Act.put, sA, sZ, sS, i64_w, i32_w]
         rfl
        refine pure_ (i := 2) (N := some 48) (v := ?_) (a' := ?_) (bl 37 7) rfl rfl (any_of HT_.out (by kernel_rfl)) (fun _ _ _ h => h) (Or.inl ⟨by rfl, ?_⟩) ?_ ?_
        rotate_left
        ·intro w'
         go_simp
         with_reducible rfl
        rotate_left
        ·simp only [Act.put, sA, sZ, sS, i64_w, i32_w]
         rfl
        refine pure_ (i := 3) (N := some 49) (v := ?_) (a' := ?_) (bl 37 15) rfl rfl (any_of HT_.out (by kernel_rfl)) (fun _ _ _ h => h) (Or.inl ⟨by rfl, ?_⟩) ?_ ?_
        rotate_left
        ·intro w'
         go_simp
         with_reducible rfl
        rotate_left
        ·simp only [Act.put, sA, sZ, sS, i64_w, i32_w]
         rfl
        refine pure_ (i := 4) (N := some 50) (v := undef) (a' := ?_) (bl 37 31) rfl rfl (any_of HT_.out (by kernel_rfl)) (fun _ _ _ h => h) (Or.inr ⟨by rfl, rfl⟩) ?_ ?_
        rotate_left
        ·simp only [Act.put, sA, sZ, sS, i64_w, i32_w]
         rfl
        refine pure_ (i := 5) (N := some 51) (v := undef) (a' := ?_) (bl 37 63) rfl rfl (any_of HT_.out (by kernel_rfl)) (fun _ _ _ h => h) (Or.inr ⟨by rfl, rfl⟩) ?_ ?_
        rotate_left
        ·simp only [Act.put, sA, sZ, sS, i64_w, i32_w]
         rfl
        refine pure_ (i := 6) (N := some 52) (v := undef) (a' := ?_) (bl 37 127) rfl rfl (any_of HT_.out (by kernel_rfl)) (fun _ _ _ h => h) (Or.inr ⟨by rfl, rfl⟩) ?_ ?_
        rotate_left
        ·simp only [Act.put, sA, sZ, sS, i64_w, i32_w]
         rfl
        refine pure_ (i := 7) (N := some 53) (v := undef) (a' := ?_) (bl 37 255) rfl rfl (any_of HT_.out (by kernel_rfl)) (fun _ _ _ h => h) (Or.inr ⟨by rfl, rfl⟩) ?_ ?_
        rotate_left
        ·simp only [Act.put, sA, sZ, sS, i64_w, i32_w]
         rfl
        refine pure_ (i := 8) (N := some 54) (v := undef) (a' := ?_) (bl 37 511) rfl rfl (any_of HT_.out (by kernel_rfl)) (fun _ _ _ h => h) (Or.inr ⟨by rfl, rfl⟩) ?_ ?_
        rotate_left
        ·simp only [Act.put, sA, sZ, sS, i64_w, i32_w]
         rfl
        refine pure_ (i := 9) (N := some 55) (v := undef) (a' := ?_) (bl 37 1023) rfl rfl (any_of HT_.out (by kernel_rfl)) (fun _ _ _ h => h) (Or.inr ⟨by rfl, rfl⟩) ?_ ?_
        rotate_left
        ·simp only [Act.put, sA, sZ, sS, i64_w, i32_w]
         rfl
        refine pure_ (i := 10) (N := some 56) (v := undef) (a' := ?_) (bl 37 2047) rfl rfl (any_of HT_.out (by kernel_rfl)) (fun _ _ _ h => h) (Or.inr ⟨by rfl, rfl⟩) ?_ ?_
        rotate_left
        ·simp only [Act.put, sA, sZ, sS, i64_w, i32_w]
         rfl
        refine pure_ (i := 11) (N := some 57) (v := undef) (a' := ?_) (bl 37 4095) rfl rfl (any_of HT_.out (by kernel_rfl)) (fun _ _ _ h => h) (Or.inr ⟨by rfl, rfl⟩) ?_ ?_
        rotate_left
        ·simp only [Act.put, sA, sZ, sS, i64_w, i32_w]
         rfl
        refine pure_ (i := 12) (N := some 58) (v := undef) (a' := ?_) (bl 37 8191) rfl rfl (any_of HT_.out (by kernel_rfl)) (fun _ _ _ h => h) (Or.inr ⟨by rfl, rfl⟩) ?_ ?_
        rotate_left
        ·simp only [Act.put, sA, sZ, sS, i64_w, i32_w]
         rfl
        refine pure_ (i := 13) (N := some 59) (v := undef) (a' := ?_) (bl 37 16383) rfl rfl (any_of HT_.out (by kernel_rfl)) (fun _ _ _ h => h) (Or.inr ⟨by rfl, rfl⟩) ?_ ?_
        rotate_left
        ·simp only [Act.put, sA, sZ, sS, i64_w, i32_w]
         rfl
        refine pure_ (i := 14) (N := some 60) (v := undef) (a' := ?_) (bl 37 32767) rfl rfl (any_of HT_.out (by kernel_rfl)) (fun _ _ _ h => h) (Or.inr ⟨by rfl, rfl⟩) ?_ ?_
        rotate_left
        ·simp only [Act.put, sA, sZ, sS, i64_w, i32_w]
         rfl
        refine pure_ (i := 15) (N := some 61) (v := undef) (a' := ?_) (bl 37 65535) rfl rfl (any_of HT_.out (by kernel_rfl)) (fun _ _ _ h => h) (Or.inr ⟨by rfl, rfl⟩) ?_ ?_
        rotate_left
        ·simp only [Act.put, sA, sZ, sS, i64_w, i32_w]
         rfl
        refine pure_ (i := 16) (N := some 62) (v := undef) (a' := ?_) (bl 37 131071) rfl rfl (any_of HT_.out (by kernel_rfl)) (fun _ _ _ h => h) (Or.inr ⟨by rfl, rfl⟩) ?_ ?_
        rotate_left
        ·simp only [Act.put, sA, sZ, sS, i64_w, i32_w]
         rfl
        refine pure_ (i := 17) (N := some 63) (v := ?_) (a' := ?_) (bl 37 262143) rfl rfl (any_of HT_.out (by kernel_rfl)) (fun _ _ _ h => h) (Or.inl ⟨by rfl, ?_⟩) ?_ ?_
        rotate_left
        ·intro w'
         go_simp
         with_reducible rfl
        rotate_left
        ·simp only [Act.put, sA, sZ, sS, i64_w, i32_w]
         rfl
        refine pure_ (i := 18) (N := some 64) (v := ?_) (a' := ?_) (bl 37 524287) rfl rfl (any_of HT_.out (by kernel_rfl)) (fun _ _ _ h => h) (Or.inl ⟨by rfl, ?_⟩) ?_ ?_
        rotate_left
        ·intro w'
         go_simp
         with_reducible rfl
        rotate_left
        ·simp only [Act.put, sA, sZ, sS, i64_w, i32_w]
         rfl
        refine pure_ (i := 19) (N := some 65) (v := ?_) (a' := ?_) (bl 37 1048575) rfl rfl (any_of HT_.out (by kernel_rfl)) (fun _ _ _ h => h) (Or.inl ⟨by rfl, ?_⟩) ?_ ?_
        rotate_left
        ·intro w'
         go_simp
         with_reducible rfl
        rotate_left
        ·simp only [Act.put, sA, sZ, sS, i64_w, i32_w]
         rfl
        refine take_ (i := 20) (N := some 66) (v := ?_) (a' := ?_) (bl 37 2097151) rfl rfl (take_ofW HT_.out HW_.out (by kernel_rfl)) (fun _ _ _ h => h) (Or.inl ⟨by rfl, ?_⟩) hHeld ?_ ?_
        rotate_left
        ·rintro w' ⟨s0, s1, s2, s3⟩
         go_simp
         with_reducible rfl
        rotate_left
        ·simp only [Act.put, sA, sZ, sS, i64_w, i32_w]
         rfl
        refine pure_ (i := 21) (N := some 67) (v := ?_) (a' := ?_) (bl 37 4194303) rfl rfl (any_of HT_.out (by kernel_rfl)) (fun _ _ _ h => h) (Or.inl ⟨by rfl, ?_⟩) ?_ ?_
        rotate_left
        ·intro w'
         go_simp
         with_reducible rfl
        rotate_left
        ·simp only [Act.put, sA, sZ, sS, i64_w, i32_w]
         rfl
        refine pure_ (i := 22) (N := some 68) (v := ?_) (a' := ?_) (bl 37 8388607) rfl rfl (any_of HT_.out (by kernel_rfl)) (fun _ _ _ h => h) (Or.inl ⟨by rfl, ?_⟩) ?_ ?_
        rotate_left
        ·intro w'
         go_simp
         with_reducible rfl
        rotate_left
        ·simp only [Act.put, sA, sZ, sS, i64_w, i32_w]
         rfl
        refine pure_ (i := 23) (N := some 69) (v := ?_) (a' := ?_) (bl 37 16777215) rfl rfl (any_of HT_.out (by kernel_rfl)) (fun _ _ _ h => h) (Or.inl ⟨by rfl, ?_⟩) ?_ ?_
        rotate_left
        ·intro w'
         go_simp
         with_reducible rfl
        rotate_left
        ·simp only [Act.put, sA, sZ, sS, i64_w, i32_w]
         rfl
        refine take_ (i := 24) (N := some 70) (v := ?_) (a' := ?_) (bl 37 33554431) rfl rfl (take_ofW HT_.out HW_.out (by kernel_rfl)) (fun _ _ _ h => h) (Or.inl ⟨by rfl, ?_⟩) hHeld ?_ ?_
        rotate_left
        ·rintro w' ⟨s0, s1, s2, s3⟩
         go_simp
         with_reducible rfl
        rotate_left
        ·simp only [Act.put, sA, sZ, sS, i64_w, i32_w]
         rfl
        refine pure_ (i := 25) (N := some 71) (v := ?_) (a' := ?_) (bl 37 67108863) rfl rfl (any_of HT_.out (by kernel_rfl)) (fun _ _ _ h => h) (Or.inl ⟨by rfl, ?_⟩) ?_ ?_
        rotate_left
        ·intro w'
         go_simp
         with_reducible rfl
        rotate_left
        ·simp only [Act.put, sA, sZ, sS, i64_w, i32_w]
         rfl
        refine pure_ (i := 26) (N := some 72) (v := ?_) (a' := ?_) (bl 37 134217727) rfl rfl (any_of HT_.out (by kernel_rfl)) (fun _ _ _ h => h) (Or.inl ⟨by rfl, ?_⟩) ?_ ?_
        rotate_left
        ·intro w'
         go_simp
         with_reducible rfl
        rotate_left
        ·simp only [Act.put, sA, sZ, sS, i64_w, i32_w]
         rfl
        refine pure_ (i := 27) (N := some 73) (v := ?_) (a' := ?_) (bl 37 268435455) rfl rfl (any_of HT_.out (by kernel_rfl)) (fun _ _ _ h => h) (Or.inl ⟨by rfl, ?_⟩) ?_ ?_
        rotate_left
        ·intro w'
         go_simp
         with_reducible rfl
        rotate_left
        ·simp only [Act.put, sA, sZ, sS, i64_w, i32_w]
         rfl
        refine take_ (i := 28) (N := some 74) (v := ?_) (a' := ?_) (bl 37 536870911) rfl rfl (take_ofW HT_.out HW_.out (by kernel_rfl)) (fun _ _ _ h => h) (Or.inl ⟨by rfl, ?_⟩) hHeld ?_ ?_
        rotate_left
        ·rintro w' ⟨s0, s1, s2, s3⟩
         go_simp
         with_reducible rfl
        rotate_left
        ·simp only [Act.put, sA, sZ, sS, i64_w, i32_w]
         rfl
        refine pure_ (i := 29) (N := some 75) (v := ?_) (a' := ?_) (bl 37 1073741823) rfl rfl (any_of HT_.out (by kernel_rfl)) (fun _ _ _ h => h) (Or.inl ⟨by rfl, ?_⟩) ?_ ?_
        rotate_left
        ·intro w'
         go_simp
         with_reducible rfl
        rotate_left
        ·simp only [Act.put, sA, sZ, sS, i64_w, i32_w]
         rfl
        refine pure_ (i := 30) (N := some 76) (v := ?_) (a' := ?_) (bl 37 2147483647) rfl rfl (any_of HT_.out (by kernel_rfl)) (fun _ _ _ h => h) (Or.inl ⟨by rfl, ?_⟩) ?_ ?_
        rotate_left
        ·intro w'
         go_simp
         with_reducible rfl
        rotate_left
        ·simp only [Act.put, sA, sZ, sS, i64_w, i32_w]
         rfl
        refine pure_ (i := 31) (N := some 77) (v := undef) (a' := ?_) (bl 37 4294967295) rfl rfl (any_of HT_.out (by kernel_rfl)) (fun _ _ _ h => h) (Or.inr ⟨by rfl, rfl⟩) ?_ ?_
        rotate_left
        ·simp only [Act.put, sA, sZ, sS, i64_w, i32_w]
         rfl
        refine pure_ (i := 32) (N := some 78) (v := undef) (a' := ?_) (bl 37 8589934591) rfl rfl (any_of HT_.out (by kernel_rfl)) (fun _ _ _ h => h) (Or.inr ⟨by rfl, rfl⟩) ?_ ?_
        rotate_left
        ·simp only [Act.put, sA, sZ, sS, i64_w, i32_w]
         rfl
        refine pure_ (i := 33) (N := some 79) (v := undef) (a' := ?_) (bl 37 17179869183) rfl rfl (any_of HT_.out (by kernel_rfl)) (fun _ _ _ h => h) (Or.inr ⟨by rfl, rfl⟩) ?_ ?_
        rotate_left
        ·simp only [Act.put, sA, sZ, sS, i64_w, i32_w]
         rfl
        refine pure_ (i := 34) (N := some 80) (v := ?_) (a' := ?_) (bl 37 34359738367) rfl rfl (any_of HT_.out (by kernel_rfl)) (fun _ _ _ h => h) (Or.inl ⟨by rfl, ?_⟩) ?_ ?_
        rotate_left
        ·intro w'
         go_simp
         with_reducible rfl
        rotate_left
        ·simp only [Act.put, sA, sZ, sS, i64_w, i32_w]
         rfl
        refine pure_ (i := 35) (N := some 81) (v := ?_) (a' := ?_) (bl 37 68719476735) rfl rfl (any_of HT_.out (by kernel_rfl)) (fun _ _ _ h => h) (Or.inl ⟨by rfl, ?_⟩) ?_ ?_
        rotate_left
        ·intro w'
         go_simp
         with_reducible rfl
        rotate_left
        ·simp only [Act.put, sA, sZ, sS, i64_w, i32_w]
         rfl
        refine pure_ (i := 36) (N := some 82) (v := ?_) (a' := ?_) (bl 37 137438953471) rfl rfl (any_of HT_.out (by kernel_rfl)) (fun _ _ _ h => h) (Or.inl ⟨by rfl, ?_⟩) ?_ ?_
        rotate_left
        ·intro w'
         go_simp
         with_reducible rfl
        rotate_left
        ·simp only [Act.put, sA, sZ, sS, i64_w, i32_w]
         rfl
        refine done_ (done_of HT_.out (by kernel_rfl)) ?_
        try go_wp2
        go_meet
        case rel => exact ⟨_, (true), (by first | rfl | (simp; done) | (simp [*]; done)), H', ⟨by have := HK1.out; have := HK2.out; first | omega | exact Nat.le_refl _⟩, ⟨by (with_reducible repeat (first | apply Kd.S_alloc | apply Kd.S_drewN | apply Kd.S_drew)); exact HO_4.out⟩, ⟨by (with_reducible repeat (first | refine bN ?_ _ | refine bD ?_ | refine bA ?_ _)); first | exact BK101.out | (rw [← Nbq27.out]; exact BK101.out) | (rw [← Nbq46.out]; exact BK101.out)⟩, ⟨by (with_reducible repeat (first | refine bN ?_ _ | refine bD ?_ | refine bA ?_ _)); first | exact BK110.out | (rw [← Nbq27.out]; exact BK110.out) | (rw [← Nbq46.out]; exact BK110.out)⟩, ⟨by repeat (first | (with_reducible first | exact HB.out | apply lA | apply lN | apply lD | refine lS ?_ GE101.out | refine lS ?_ GE110.out) | exact HB.out)⟩⟩
       replace c47 := Bool.eq_false_iff.mpr c47
       subst c47
       (try rw [← Nbq46.out])
       have H1 : (lambrequinlaw22_InterpReaches.j2 k2 t102 t104 x5_1 x6_2 (((rd_T54 ((rd_T52 t104 x5_1).vars) x6_2).last) != (-1)) l0_0 l0_1 l0_2 a0_3) = some r := by rw [if_neg (show ¬ (false = true) by decide)] at H; exact H
       clear H
       have H := H1
       clear H1
       have H' := am H
       clear H
       try go_wp2
       have n0_ : Aside0 (Kd.S k52 52 ((((w19.setCell ⟨gb110, 0, none⟩ (.string ((rd_T54 ((rd_T52 t104 x5_1).vars) x6_2).name))).setCell ⟨gb110, 1, none⟩ (.int .i64 ((rd_T54 ((rd_T52 t104 x5_1).vars) x6_2).n))).setCell ⟨gb110, 2, none⟩ (.int .i64 ((rd_T54 ((rd_T52 t104 x5_1).vars) x6_2).last))).setCell ⟨gb110, 3, none⟩ (.bool (false))) w.heap.size (fun k_ => k_ ≠ gb110) (.slice (some ad107) t104.length co13) t104) := ⟨by (with_reducible repeat (first | apply Kd.S_alloc | apply Kd.S_drewN | apply Kd.S_drew)); exact Kd.S_mono (Kd.S_far (p := ⟨gb110, 3, none⟩) (Kd.S_far (p := ⟨gb110, 2, none⟩) (Kd.S_far (p := ⟨gb110, 1, none⟩) (Kd.S_far (p := ⟨gb110, 0, none⟩) (Kd.S_mono HO_4.out (fun k_ hk => (⟨hk, hk.2⟩ : _ ∧ k_ ≠ gb110))) (fun _ hk => hk.2) _) (fun _ hk => hk.2) _) (fun _ hk => hk.2) _) (fun _ hk => hk.2) _) (fun _ hk => hk.1.2)⟩
       have n1_ : Aside0 (Kd.R k54 54 ((((w19.setCell ⟨gb110, 0, none⟩ (.string ((rd_T54 ((rd_T52 t104 x5_1).vars) x6_2).name))).setCell ⟨gb110, 1, none⟩ (.int .i64 ((rd_T54 ((rd_T52 t104 x5_1).vars) x6_2).n))).setCell ⟨gb110, 2, none⟩ (.int .i64 ((rd_T54 ((rd_T52 t104 x5_1).vars) x6_2).last))).setCell ⟨gb110, 3, none⟩ (.bool (false))) w.heap.size (fun k_ => some k_ ≠ (.slice (some ad107) t104.length co13 : Value).ownBlock ∧ k_ ≠ gb110) (.slice (some ad109) ((rd_T52 t104 x5_1).vars).length c107_1) ((rd_T52 t104 x5_1).vars)) := ⟨by (with_reducible repeat (first | apply Ra | apply Rn | apply Rd)); exact Kd.R_mono (Kd.R_far (p := ⟨gb110, 3, none⟩) (Kd.R_far (p := ⟨gb110, 2, none⟩) (Kd.R_far (p := ⟨gb110, 1, none⟩) (Kd.R_far (p := ⟨gb110, 0, none⟩) (Kd.R_mono HL107_1.out (fun k_ hk => (⟨hk, hk.2⟩ : _ ∧ k_ ≠ gb110))) (fun _ hk => hk.2) _) (fun _ hk => hk.2) _) (fun _ hk => hk.2) _) (fun _ hk => hk.2) _) (fun _ hk => ⟨hk.1.1.2, hk.1.2⟩)⟩
       have n2_ : Aside0 (Kd.R k54 54 ((((w19.setCell ⟨gb110, 0, none⟩ (.string ((rd_T54 ((rd_T52 t104 x5_1).vars) x6_2).name))).setCell ⟨gb110, 1, none⟩ (.int .i64 ((rd_T54 ((rd_T52 t104 x5_1).vars) x6_2).n))).setCell ⟨gb110, 2, none⟩ (.int .i64 ((rd_T54 ((rd_T52 t104 x5_1).vars) x6_2).last))).setCell ⟨gb110, 3, none⟩ (.bool (false))) w.heap.size (fun k_ => some k_ ≠ (.slice (some ad107) t104.length co13 : Value).ownBlock ∧ k_ ≠ gb110) (.slice (some ad109) ((rd_T52 t104 x5_1).vars).length c107_1) ((rd_T52 t104 x5_1).vars)) := ⟨by (with_reducible repeat (first | apply Ra | apply Rn | apply Rd)); exact Kd.R_mono (Kd.R_far (p := ⟨gb110, 3, none⟩) (Kd.R_far (p := ⟨gb110, 2, none⟩) (Kd.R_far (p := ⟨gb110, 1, none⟩) (Kd.R_far (p := ⟨gb110, 0, none⟩) (Kd.R_mono HL108_1.out (fun k_ hk => (⟨hk, hk.2⟩ : _ ∧ k_ ≠ gb110))) (fun _ hk => hk.2) _) (fun _ hk => hk.2) _) (fun _ hk => hk.2) _) (fun _ hk => hk.2) _) (fun _ hk => ⟨hk.1.1.2, hk.1.2⟩)⟩
       have n3_ : Aside0 (((((w19.setCell ⟨gb110, 0, none⟩ (.string ((rd_T54 ((rd_T52 t104 x5_1).vars) x6_2).name))).setCell ⟨gb110, 1, none⟩ (.int .i64 ((rd_T54 ((rd_T52 t104 x5_1).vars) x6_2).n))).setCell ⟨gb110, 2, none⟩ (.int .i64 ((rd_T54 ((rd_T52 t104 x5_1).vars) x6_2).last))).setCell ⟨gb110, 3, none⟩ (.bool (false))).heap[gb101]? = some (.cells #[.slice A0_0 l0_0.length c0_0, .slice A0_1 l0_1.length c0_1, .slice A0_2 l0_2.length c0_2, .int .i64 a0_3] 43 (0, 0))) := ⟨by repeat (first | (with_reducible first | exact BK101.out | refine bN ?_ _ | refine bD ?_ | refine bA ?_ _) | refine blk_far ?_ NB101_110.out _ | exact BK101.out)⟩
       have n4_ : Aside0 (((((w19.setCell ⟨gb110, 0, none⟩ (.string ((rd_T54 ((rd_T52 t104 x5_1).vars) x6_2).name))).setCell ⟨gb110, 1, none⟩ (.int .i64 ((rd_T54 ((rd_T52 t104 x5_1).vars) x6_2).n))).setCell ⟨gb110, 2, none⟩ (.int .i64 ((rd_T54 ((rd_T52 t104 x5_1).vars) x6_2).last))).setCell ⟨gb110, 3, none⟩ (.bool (false))).heap[gb110]? = some (.cells #[.string ((rd_T54 ((rd_T52 t104 x5_1).vars) x6_2).name), .int .i64 ((rd_T54 ((rd_T52 t104 x5_1).vars) x6_2).n), .int .i64 ((rd_T54 ((rd_T52 t104 x5_1).vars) x6_2).last), .bool false] 54 (0, 0))) := ⟨by (with_reducible repeat (first | refine bN ?_ _ | refine bD ?_ | refine bA ?_ _)); refine blk_put (cs := #[.string ((rd_T54 ((rd_T52 t104 x5_1).vars) x6_2).name), .int .i64 ((rd_T54 ((rd_T52 t104 x5_1).vars) x6_2).n), .int .i64 ((rd_T54 ((rd_T52 t104 x5_1).vars) x6_2).last), .bool false]) ?_ 3 _ rfl; (with_reducible repeat (first | refine bN ?_ _ | refine bD ?_ | refine bA ?_ _)); refine blk_put (cs := #[.string ((rd_T54 ((rd_T52 t104 x5_1).vars) x6_2).name), .int .i64 ((rd_T54 ((rd_T52 t104 x5_1).vars) x6_2).n), .int .i64 0, .bool false]) ?_ 2 _ rfl; (with_reducible repeat (first | refine bN ?_ _ | refine bD ?_ | refine bA ?_ _)); refine blk_put (cs := #[.string ((rd_T54 ((rd_T52 t104 x5_1).vars) x6_2).name), .int .i64 0, .int .i64 0, .bool false]) ?_ 1 _ rfl; (with_reducible repeat (first | refine bN ?_ _ | refine bD ?_ | refine bA ?_ _)); refine blk_put (cs := #[.string (⟨#[]⟩ : ByteArray), .int .i64 0, .int .i64 0, .bool false]) ?_ 0 _ rfl; (with_reducible repeat (first | refine bN ?_ _ | refine bD ?_ | refine bA ?_ _)); exact BK110.out⟩
       have n5_ : Aside0 (Below w.heap.size w ((((w19.setCell ⟨gb110, 0, none⟩ (.string ((rd_T54 ((rd_T52 t104 x5_1).vars) x6_2).name))).setCell ⟨gb110, 1, none⟩ (.int .i64 ((rd_T54 ((rd_T52 t104 x5_1).vars) x6_2).n))).setCell ⟨gb110, 2, none⟩ (.int .i64 ((rd_T54 ((rd_T52 t104 x5_1).vars) x6_2).last))).setCell ⟨gb110, 3, none⟩ (.bool (false)))) := ⟨by repeat (first | (with_reducible first | exact HB.out | apply lA | apply lN | apply lD | refine lS ?_ GE101.out | refine lS ?_ GE110.out) | exact HB.out)⟩
       (try clear HO_4)
       (try clear HL107_1)
       (try clear HL108_1)
       (try clear BK101)
       (try clear BK110)
       (try clear HB)
       generalize ((((w19.setCell ⟨gb110, 0, none⟩ (.string ((rd_T54 ((rd_T52 t104 x5_1).vars) x6_2).name))).setCell ⟨gb110, 1, none⟩ (.int .i64 ((rd_T54 ((rd_T52 t104 x5_1).vars) x6_2).n))).setCell ⟨gb110, 2, none⟩ (.int .i64 ((rd_T54 ((rd_T52 t104 x5_1).vars) x6_2).last))).setCell ⟨gb110, 3, none⟩ (.bool (false))) = w50 at n0_ n1_ n2_ n3_ n4_ n5_ ⊢
       have HO_4 := n0_
       have HL107_1 := n1_
       have HL108_1 := n2_
       have BK101 := n3_
       have BK110 := n4_
       have HB := n5_
       clear n0_ n1_ n2_ n3_ n4_ n5_
       replace HO_4 := am (Kd.S_drew HO_4.out)
       replace HL107_1 := am (Kd.R_drew HL107_1.out)
       replace HL108_1 := am (Kd.R_drew HL108_1.out)
       replace BK101 := am (blk_drew BK101.out)
       replace BK110 := am (blk_drew BK110.out)
       replace HB := am (below_drew1 HB.out)
       refine start_ (n := 37) (S := fun w' => w'.cell? ⟨gb110, 0, none⟩ = some (.string ((rd_T54 ((rd_T52 t104 x5_1).vars) x6_2).name)) ∧ w'.cell? ⟨gb110, 1, none⟩ = some (.int .i64 ((rd_T54 ((rd_T52 t104 x5_1).vars) x6_2).n)) ∧ w'.cell? ⟨gb110, 2, none⟩ = some (.int .i64 ((rd_T54 ((rd_T52 t104 x5_1).vars) x6_2).last)) ∧ w'.cell? ⟨gb110, 3, none⟩ = some (.bool false)) (ds := []) (bl 37 0) (by kernel_rfl) rfl rfl ⟨(blk_cell BK110.out 0).trans rfl, (blk_cell BK110.out 1).trans rfl, (blk_cell BK110.out 2).trans rfl, (blk_cell BK110.out 3).trans rfl⟩ (fun hHeld => ?_); refine with_tabW lambrequinlaw22_InterpReaches.tab12 lambrequinlaw22_InterpReaches.bits12 (fun HT_ HW_ => ?_)
       generalize w50.drew = w51 at HO_4 HL107_1 HL108_1 BK101 BK110 HB hHeld ⊢
       refine pure_ (i := 0) (N := some 46) (v := ?_) (a' := ?_) (bl 37 1) rfl rfl (any_of HT_.out (by kernel_rfl)) (fun _ _ _ h => h) (Or.inl ⟨by rfl, ?_⟩) ?_ ?_
       rotate_left
       ·intro w'
        go_simp
        with_reducible rfl
       rotate_left
       ·simp only [Act.put, sA, sZ, sS, i64_w, i32_w]
        rfl
       refine take_ (i := 1) (N := some 47) (v := ?_) (a' := ?_) (bl 37 3) rfl rfl (take_ofW HT_.out HW_.out (by kernel_rfl)) (fun _ _ _ h => h) (Or.inl ⟨by rfl, ?_⟩) hHeld ?_ ?_
       rotate_left
       ·rintro w' ⟨s0, s1, s2, s3⟩
        go_simp
        with_reducible rfl
       rotate_left
       ·simp only [Act.put, sA, sZ, sS, i64_w, i32_w]
        rfl
       refine pure_ (i := 2) (N := some 48) (v := ?_) (a' := ?_) (bl 37 7) rfl rfl (any_of HT_.out (by kernel_rfl)) (fun _ _ _ h => h) (Or.inl ⟨by rfl, ?_⟩) ?_ ?_
       rotate_left
       ·intro w'
        go_simp
        with_reducible rfl
       rotate_left
       ·simp only [Act.put, sA, sZ, sS, i64_w, i32_w]
        rfl
       refine pure_ (i := 3) (N := some 49) (v := ?_) (a' := ?_) (bl 37 15) rfl rfl (any_of HT_.out (by kernel_rfl)) (fun _ _ _ h => h) (Or.inl ⟨by rfl, ?_⟩) ?_ ?_
       rotate_left
       ·intro w'
        go_simp
        with_reducible rfl
       rotate_left
       ·simp only [Act.put, sA, sZ, sS, i64_w, i32_w]
        rfl
       refine pure_ (i := 4) (N := some 50) (v := undef) (a' := ?_) (bl 37 31) rfl rfl (any_of HT_.out (by kernel_rfl)) (fun _ _ _ h => h) (Or.inr ⟨by rfl, rfl⟩) ?_ ?_
       rotate_left
       ·simp only [Act.put, sA, sZ, sS, i64_w, i32_w]
        rfl
       refine pure_ (i := 5) (N := some 51) (v := undef) (a' := ?_) (bl 37 63) rfl rfl (any_of HT_.out (by kernel_rfl)) (fun _ _ _ h => h) (Or.inr ⟨by rfl, rfl⟩) ?_ ?_
       rotate_left
       ·simp only [Act.put, sA, sZ, sS, i64_w, i32_w]
        rfl
       refine pure_ (i := 6) (N := some 52) (v := undef) (a' := ?_) (bl 37 127) rfl rfl (any_of HT_.out (by kernel_rfl)) (fun _ _ _ h => h) (Or.inr ⟨by rfl, rfl⟩) ?_ ?_
       rotate_left
       ·simp only [Act.put, sA, sZ, sS, i64_w, i32_w]
        rfl
       refine pure_ (i := 7) (N := some 53) (v := undef) (a' := ?_) (bl 37 255) rfl rfl (any_of HT_.out (by kernel_rfl)) (fun _ _ _ h => h) (Or.inr ⟨by rfl, rfl⟩) ?_ ?_
       rotate_left
       ·simp only [Act.put, sA, sZ, sS, i64_w, i32_w]
        rfl
       refine pure_ (i := 8) (N := some 54) (v := undef) (a' := ?_) (bl 37 511) rfl rfl (any_of HT_.out (by kernel_rfl)) (fun _ _ _ h => h) (Or.inr ⟨by rfl, rfl⟩) ?_ ?_
       rotate_left
       ·simp only [Act.put, sA, sZ, sS, i64_w, i32_w]
        rfl
       refine pure_ (i := 9) (N := some 55) (v := undef) (a' := ?_) (bl 37 1023) rfl rfl (any_of HT_.out (by kernel_rfl)) (fun _ _ _ h => h) (Or.inr ⟨by rfl, rfl⟩) ?_ ?_
       rotate_left
       ·simp only [Act.put, sA, sZ, sS, i64_w, i32_w]
        rfl
       refine pure_ (i := 10) (N := some 56) (v := undef) (a' := ?_) (bl 37 2047) rfl rfl (any_of HT_.out (by kernel_rfl)) (fun _ _ _ h => h) (Or.inr ⟨by rfl, rfl⟩) ?_ ?_
       rotate_left
       ·simp only [Act.put, sA, sZ, sS, i64_w, i32_w]
        rfl
       refine pure_ (i := 11) (N := some 57) (v := undef) (a' := ?_) (bl 37 4095) rfl rfl (any_of HT_.out (by kernel_rfl)) (fun _ _ _ h => h) (Or.inr ⟨by rfl, rfl⟩) ?_ ?_
       rotate_left
       ·simp only [Act.put, sA, sZ, sS, i64_w, i32_w]
        rfl
       refine pure_ (i := 12) (N := some 58) (v := undef) (a' := ?_) (bl 37 8191) rfl rfl (any_of HT_.out (by kernel_rfl)) (fun _ _ _ h => h) (Or.inr ⟨by rfl, rfl⟩) ?_ ?_
       rotate_left
       ·simp only [Act.put, sA, sZ, sS, i64_w, i32_w]
        rfl
       refine pure_ (i := 13) (N := some 59) (v := undef) (a' := ?_) (bl 37 16383) rfl rfl (any_of HT_.out (by kernel_rfl)) (fun _ _ _ h => h) (Or.inr ⟨by rfl, rfl⟩) ?_ ?_
       rotate_left
       ·simp only [Act.put, sA, sZ, sS, i64_w, i32_w]
        rfl
       refine pure_ (i := 14) (N := some 60) (v := undef) (a' := ?_) (bl 37 32767) rfl rfl (any_of HT_.out (by kernel_rfl)) (fun _ _ _ h => h) (Or.inr ⟨by rfl, rfl⟩) ?_ ?_
       rotate_left
       ·simp only [Act.put, sA, sZ, sS, i64_w, i32_w]
        rfl
       refine pure_ (i := 15) (N := some 61) (v := undef) (a' := ?_) (bl 37 65535) rfl rfl (any_of HT_.out (by kernel_rfl)) (fun _ _ _ h => h) (Or.inr ⟨by rfl, rfl⟩) ?_ ?_
       rotate_left
       ·simp only [Act.put, sA, sZ, sS, i64_w, i32_w]
        rfl
       refine pure_ (i := 16) (N := some 62) (v := undef) (a' := ?_) (bl 37 131071) rfl rfl (any_of HT_.out (by kernel_rfl)) (fun _ _ _ h => h) (Or.inr ⟨by rfl, rfl⟩) ?_ ?_
       rotate_left
       ·simp only [Act.put, sA, sZ, sS, i64_w, i32_w]
        rfl
       refine pure_ (i := 17) (N := some 63) (v := ?_) (a' := ?_) (bl 37 262143) rfl rfl (any_of HT_.out (by kernel_rfl)) (fun _ _ _ h => h) (Or.inl ⟨by rfl, ?_⟩) ?_ ?_
       rotate_left
       ·intro w'
        go_simp
        with_reducible rfl
       rotate_left
       ·simp only [Act.put, sA, sZ, sS, i64_w, i32_w]
        rfl
       refine pure_ (i := 18) (N := some 64) (v := ?_) (a' := ?_) (bl 37 524287) rfl rfl (any_of HT_.out (by kernel_rfl)) (fun _ _ _ h => h) (Or.inl ⟨by rfl, ?_⟩) ?_ ?_
       rotate_left
       ·intro w'
        go_simp
        with_reducible rfl
       rotate_left
       ·simp only [Act.put, sA, sZ, sS, i64_w, i32_w]
        rfl
       refine pure_ (i := 19) (N := some 65) (v := ?_) (a' := ?_) (bl 37 1048575) rfl rfl (any_of HT_.out (by kernel_rfl)) (fun _ _ _ h => h) (Or.inl ⟨by rfl, ?_⟩) ?_ ?_
       rotate_left
       ·intro w'
        go_simp
        with_reducible rfl
       rotate_left
       ·simp only [Act.put, sA, sZ, sS, i64_w, i32_w]
        rfl
       refine take_ (i := 20) (N := some 66) (v := ?_) (a' := ?_) (bl 37 2097151) rfl rfl (take_ofW HT_.out HW_.out (by kernel_rfl)) (fun _ _ _ h => h) (Or.inl ⟨by rfl, ?_⟩) hHeld ?_ ?_
       rotate_left
       ·rintro w' ⟨s0, s1, s2, s3⟩
        go_simp
        with_reducible rfl
       rotate_left
       ·simp only [Act.put, sA, sZ, sS, i64_w, i32_w]
        rfl
       refine pure_ (i := 21) (N := some 67) (v := ?_) (a' := ?_) (bl 37 4194303) rfl rfl (any_of HT_.out (by kernel_rfl)) (fun _ _ _ h => h) (Or.inl ⟨by rfl, ?_⟩) ?_ ?_
       rotate_left
       ·intro w'
        go_simp
        with_reducible rfl
       rotate_left
       ·simp only [Act.put, sA, sZ, sS, i64_w, i32_w]
        rfl
       refine pure_ (i := 22) (N := some 68) (v := ?_) (a' := ?_) (bl 37 8388607) rfl rfl (any_of HT_.out (by kernel_rfl)) (fun _ _ _ h => h) (Or.inl ⟨by rfl, ?_⟩) ?_ ?_
       rotate_left
       ·intro w'
        go_simp
        with_reducible rfl
       rotate_left
       ·simp only [Act.put, sA, sZ, sS, i64_w, i32_w]
        rfl
       refine pure_ (i := 23) (N := some 69) (v := ?_) (a' := ?_) (bl 37 16777215) rfl rfl (any_of HT_.out (by kernel_rfl)) (fun _ _ _ h => h) (Or.inl ⟨by rfl, ?_⟩) ?_ ?_
       rotate_left
       ·intro w'
        go_simp
        with_reducible rfl
       rotate_left
       ·simp only [Act.put, sA, sZ, sS, i64_w, i32_w]
        rfl
       refine take_ (i := 24) (N := some 70) (v := ?_) (a' := ?_) (bl 37 33554431) rfl rfl (take_ofW HT_.out HW_.out (by kernel_rfl)) (fun _ _ _ h => h) (Or.inl ⟨by rfl, ?_⟩) hHeld ?_ ?_
       rotate_left
       ·rintro w' ⟨s0, s1, s2, s3⟩
        go_simp
        with_reducible rfl
       rotate_left
       ·simp only [Act.put, sA, sZ, sS, i64_w, i32_w]
        rfl
       refine pure_ (i := 25) (N := some 71) (v := ?_) (a' := ?_) (bl 37 67108863) rfl rfl (any_of HT_.out (by kernel_rfl)) (fun _ _ _ h => h) (Or.inl ⟨by rfl, ?_⟩) ?_ ?_
       rotate_left
       ·intro w'
        go_simp
        with_reducible rfl
       rotate_left
       ·simp only [Act.put, sA, sZ, sS, i64_w, i32_w]
        rfl
       refine pure_ (i := 26) (N := some 72) (v := ?_) (a' := ?_) (bl 37 134217727) rfl rfl (any_of HT_.out (by kernel_rfl)) (fun _ _ _ h => h) (Or.inl ⟨by rfl, ?_⟩) ?_ ?_
       rotate_left
       ·intro w'
        go_simp
        with_reducible rfl
       rotate_left
       ·simp only [Act.put, sA, sZ, sS, i64_w, i32_w]
        rfl
       refine pure_ (i := 27) (N := some 73) (v := ?_) (a' := ?_) (bl 37 268435455) rfl rfl (any_of HT_.out (by kernel_rfl)) (fun _ _ _ h => h) (Or.inl ⟨by rfl, ?_⟩) ?_ ?_
       rotate_left
       ·intro w'
        go_simp
        with_reducible rfl
       rotate_left
       ·simp only [Act.put, sA, sZ, sS, i64_w, i32_w]
        rfl
       refine take_ (i := 28) (N := some 74) (v := ?_) (a' := ?_) (bl 37 536870911) rfl rfl (take_ofW HT_.out HW_.out (by kernel_rfl)) (fun _ _ _ h => h) (Or.inl ⟨by rfl, ?_⟩) hHeld ?_ ?_
       rotate_left
       ·rintro w' ⟨s0, s1, s2, s3⟩
        go_simp
        with_reducible rfl
       rotate_left
       ·simp only [Act.put, sA, sZ, sS, i64_w, i32_w]
        rfl
       refine pure_ (i := 29) (N := some 75) (v := ?_) (a' := ?_) (bl 37 1073741823) rfl rfl (any_of HT_.out (by kernel_rfl)) (fun _ _ _ h => h) (Or.inl ⟨by rfl, ?_⟩) ?_ ?_
       rotate_left
       ·intro w'
        go_simp
        with_reducible rfl
       rotate_left
       ·simp only [Act.put, sA, sZ, sS, i64_w, i32_w]
        rfl
       refine pure_ (i := 30) (N := some 76) (v := ?_) (a' := ?_) (bl 37 2147483647) rfl rfl (any_of HT_.out (by kernel_rfl)) (fun _ _ _ h => h) (Or.inl ⟨by rfl, ?_⟩) ?_ ?_
       rotate_left
       ·intro w'
        go_simp
        with_reducible rfl
       rotate_left
       ·simp only [Act.put, sA, sZ, sS, i64_w, i32_w]
        rfl
       refine pure_ (i := 31) (N := some 77) (v := ?_) (a' := ?_) (bl 37 4294967295) rfl rfl (any_of HT_.out (by kernel_rfl)) (fun _ _ _ h => h) (Or.inl ⟨by rfl, ?_⟩) ?_ ?_
       rotate_left
       ·intro w'
        go_simp
        with_reducible rfl
       rotate_left
       ·simp only [Act.put, sA, sZ, sS, i64_w, i32_w]
        rfl
       refine take_ (i := 32) (N := some 78) (v := ?_) (a' := ?_) (bl 37 8589934591) rfl rfl (take_ofW HT_.out HW_.out (by kernel_rfl)) (fun _ _ _ h => h) (Or.inl ⟨by rfl, ?_⟩) hHeld ?_ ?_
       rotate_left
       ·rintro w' ⟨s0, s1, s2, s3⟩
        go_simp
        with_reducible rfl
       rotate_left
       ·simp only [Act.put, sA, sZ, sS, i64_w, i32_w]
        rfl
       refine pure_ (i := 33) (N := some 79) (v := ?_) (a' := ?_) (bl 37 17179869183) rfl rfl (any_of HT_.out (by kernel_rfl)) (fun _ _ _ h => h) (Or.inl ⟨by rfl, ?_⟩) ?_ ?_
       rotate_left
       ·intro w'
        go_simp
        with_reducible rfl
       rotate_left
       ·simp only [Act.put, sA, sZ, sS, i64_w, i32_w]
        rfl
       refine pure_ (i := 34) (N := some 80) (v := ?_) (a' := ?_) (bl 37 34359738367) rfl rfl (any_of HT_.out (by kernel_rfl)) (fun _ _ _ h => h) (Or.inl ⟨by rfl, ?_⟩) ?_ ?_
       rotate_left
       ·intro w'
        go_simp
        with_reducible rfl
       rotate_left
       ·simp only [Act.put, sA, sZ, sS, i64_w, i32_w]
        rfl
       refine pure_ (i := 35) (N := some 81) (v := ?_) (a' := ?_) (bl 37 68719476735) rfl rfl (any_of HT_.out (by kernel_rfl)) (fun _ _ _ h => h) (Or.inl ⟨by rfl, ?_⟩) ?_ ?_
       rotate_left
       ·intro w'
        go_simp
        with_reducible rfl
       rotate_left
       ·simp only [Act.put, sA, sZ, sS, i64_w, i32_w]
        rfl
       refine pure_ (i := 36) (N := some 82) (v := ?_) (a' := ?_) (bl 37 137438953471) rfl rfl (any_of HT_.out (by kernel_rfl)) (fun _ _ _ h => h) (Or.inl ⟨by rfl, ?_⟩) ?_ ?_
       rotate_left
       ·intro w'
        go_simp
        with_reducible rfl
       rotate_left
       ·simp only [Act.put, sA, sZ, sS, i64_w, i32_w]
        rfl
       refine done_ (done_of HT_.out (by kernel_rfl)) ?_
       try go_wp2
       go_meet
       case rel => exact ⟨_, ((((rd_T54 ((rd_T52 t104 x5_1).vars) x6_2).last) != (-1))), (by first | rfl | (simp; done) | (simp [*]; done)), H', ⟨by have := HK1.out; have := HK2.out; first | omega | exact Nat.le_refl _⟩, ⟨by (with_reducible repeat (first | apply Kd.S_alloc | apply Kd.S_drewN | apply Kd.S_drew)); exact HO_4.out⟩, ⟨by (with_reducible repeat (first | refine bN ?_ _ | refine bD ?_ | refine bA ?_ _)); first | exact BK101.out | (rw [← Nbq27.out]; exact BK101.out) | (rw [← Nbq46.out]; exact BK101.out)⟩, ⟨by (with_reducible repeat (first | refine bN ?_ _ | refine bD ?_ | refine bA ?_ _)); first | exact BK110.out | (rw [← Nbq27.out]; exact BK110.out) | (rw [← Nbq46.out]; exact BK110.out)⟩, ⟨by repeat (first | (with_reducible first | exact HB.out | apply lA | apply lN | apply lD | refine lS ?_ GE101.out | refine lS ?_ GE110.out) | exact HB.out)⟩⟩
      rw [if_pos c22] at H
      have c22b0 : decide (0 ≤ ((rd_T54 ((rd_T52 t104 x5_1).vars) x6_2).last)) = true := decide_eq_true c22
      clear c22
      (first | rw [c22b0] | (simp only [i64_w, i32_w]; rw [c22b0]) | skip)
      replace H := Option.bind_eq_some_iff.mp H
      obtain ⟨t112, A230, H⟩ := H
      replace H : (if t112 = true then (if ((rd_T54 ((rd_T52 t104 x5_1).vars) x6_2).last) < 0 then (if ((rd_T54 ((rd_T52 t104 x5_1).vars) x6_2).n) = 0 then (if (rd_T54 ((rd_T52 t104 x5_1).vars) x6_2).taint = true then (lambrequinlaw22_InterpReaches.j2 k2 t102 t104 x5_1 x6_2 true l0_0 l0_1 l0_2 a0_3) else (lambrequinlaw22_InterpReaches.j2 k2 t102 t104 x5_1 x6_2 (((rd_T54 ((rd_T52 t104 x5_1).vars) x6_2).last) != (-1)) l0_0 l0_1 l0_2 a0_3)) else (lambrequinlaw22_InterpReaches.j2 k2 t102 t104 x5_1 x6_2 true l0_0 l0_1 l0_2 a0_3)) else (lambrequinlaw22_InterpReaches.j2 k2 t102 t104 x5_1 x6_2 false l0_0 l0_1 l0_2 a0_3)) else (lambrequinlaw22_InterpReaches.j2 k2 t102 t104 x5_1 x6_2 true l0_0 l0_1 l0_2 a0_3)) = some r := H
      have A23 := am A230
      clear A230
      as_aux_lemma =>
      by_cases c24 : t112 = true
      rotate_left
      ·replace c24 := Bool.eq_false_iff.mpr c24
       subst c24
       have H1 : (lambrequinlaw22_InterpReaches.j2 k2 t102 t104 x5_1 x6_2 true l0_0 l0_1 l0_2 a0_3) = some r := by rw [if_neg (show ¬ (false = true) by decide)] at H; exact H
       clear H
       have H := H1
       clear H1
       have H' := am H
       clear H
       try go_wp2
       have n0_ : Aside0 (Kd.S k52 52 ((((w19.setCell ⟨gb110, 0, none⟩ (.string ((rd_T54 ((rd_T52 t104 x5_1).vars) x6_2).name))).setCell ⟨gb110, 1, none⟩ (.int .i64 ((rd_T54 ((rd_T52 t104 x5_1).vars) x6_2).n))).setCell ⟨gb110, 2, none⟩ (.int .i64 ((rd_T54 ((rd_T52 t104 x5_1).vars) x6_2).last))).setCell ⟨gb110, 3, none⟩ (.bool ((rd_T54 ((rd_T52 t104 x5_1).vars) x6_2).taint))) w.heap.size (fun k_ => k_ ≠ gb110) (.slice (some ad107) t104.length co13) t104) := ⟨by (with_reducible repeat (first | apply Kd.S_alloc | apply Kd.S_drewN | apply Kd.S_drew)); exact Kd.S_mono (Kd.S_far (p := ⟨gb110, 3, none⟩) (Kd.S_far (p := ⟨gb110, 2, none⟩) (Kd.S_far (p := ⟨gb110, 1, none⟩) (Kd.S_far (p := ⟨gb110, 0, none⟩) (Kd.S_mono HO_4.out (fun k_ hk => (⟨hk, hk.2⟩ : _ ∧ k_ ≠ gb110))) (fun _ hk => hk.2) _) (fun _ hk => hk.2) _) (fun _ hk => hk.2) _) (fun _ hk => hk.2) _) (fun _ hk => hk.1.2)⟩
       have n1_ : Aside0 (Kd.R k54 54 ((((w19.setCell ⟨gb110, 0, none⟩ (.string ((rd_T54 ((rd_T52 t104 x5_1).vars) x6_2).name))).setCell ⟨gb110, 1, none⟩ (.int .i64 ((rd_T54 ((rd_T52 t104 x5_1).vars) x6_2).n))).setCell ⟨gb110, 2, none⟩ (.int .i64 ((rd_T54 ((rd_T52 t104 x5_1).vars) x6_2).last))).setCell ⟨gb110, 3, none⟩ (.bool ((rd_T54 ((rd_T52 t104 x5_1).vars) x6_2).taint))) w.heap.size (fun k_ => some k_ ≠ (.slice (some ad107) t104.length co13 : Value).ownBlock ∧ k_ ≠ gb110) (.slice (some ad109) ((rd_T52 t104 x5_1).vars).length c107_1) ((rd_T52 t104 x5_1).vars)) := ⟨by (with_reducible repeat (first | apply Ra | apply Rn | apply Rd)); exact Kd.R_mono (Kd.R_far (p := ⟨gb110, 3, none⟩) (Kd.R_far (p := ⟨gb110, 2, none⟩) (Kd.R_far (p := ⟨gb110, 1, none⟩) (Kd.R_far (p := ⟨gb110, 0, none⟩) (Kd.R_mono HL107_1.out (fun k_ hk => (⟨hk, hk.2⟩ : _ ∧ k_ ≠ gb110))) (fun _ hk => hk.2) _) (fun _ hk => hk.2) _) (fun _ hk => hk.2) _) (fun _ hk => hk.2) _) (fun _ hk => ⟨hk.1.1.2, hk.1.2⟩)⟩
       have n2_ : Aside0 (Kd.R k54 54 ((((w19.setCell ⟨gb110, 0, none⟩ (.string ((rd_T54 ((rd_T52 t104 x5_1).vars) x6_2).name))).setCell ⟨gb110, 1, none⟩ (.int .i64 ((rd_T54 ((rd_T52 t104 x5_1).vars) x6_2).n))).setCell ⟨gb110, 2, none⟩ (.int .i64 ((rd_T54 ((rd_T52 t104 x5_1).vars) x6_2).last))).setCell ⟨gb110, 3, none⟩ (.bool ((rd_T54 ((rd_T52 t104 x5_1).vars) x6_2).taint))) w.heap.size (fun k_ => some k_ ≠ (.slice (some ad107) t104.length co13 : Value).ownBlock ∧ k_ ≠ gb110) (.slice (some ad109) ((rd_T52 t104 x5_1).vars).length c107_1) ((rd_T52 t104 x5_1).vars)) := ⟨by (with_reducible repeat (first | apply Ra | apply Rn | apply Rd)); exact Kd.R_mono (Kd.R_far (p := ⟨gb110, 3, none⟩) (Kd.R_far (p := ⟨gb110, 2, none⟩) (Kd.R_far (p := ⟨gb110, 1, none⟩) (Kd.R_far (p := ⟨gb110, 0, none⟩) (Kd.R_mono HL108_1.out (fun k_ hk => (⟨hk, hk.2⟩ : _ ∧ k_ ≠ gb110))) (fun _ hk => hk.2) _) (fun _ hk => hk.2) _) (fun _ hk => hk.2) _) (fun _ hk => hk.2) _) (fun _ hk => ⟨hk.1.1.2, hk.1.2⟩)⟩
       have n3_ : Aside0 (((((w19.setCell ⟨gb110, 0, none⟩ (.string ((rd_T54 ((rd_T52 t104 x5_1).vars) x6_2).name))).setCell ⟨gb110, 1, none⟩ (.int .i64 ((rd_T54 ((rd_T52 t104 x5_1).vars) x6_2).n))).setCell ⟨gb110, 2, none⟩ (.int .i64 ((rd_T54 ((rd_T52 t104 x5_1).vars) x6_2).last))).setCell ⟨gb110, 3, none⟩ (.bool ((rd_T54 ((rd_T52 t104 x5_1).vars) x6_2).taint))).heap[gb101]? = some (.cells #[.slice A0_0 l0_0.length c0_0, .slice A0_1 l0_1.length c0_1, .slice A0_2 l0_2.length c0_2, .int .i64 a0_3] 43 (0, 0))) := ⟨by repeat (first | (with_reducible first | exact BK101.out | refine bN ?_ _ | refine bD ?_ | refine bA ?_ _) | refine blk_far ?_ NB101_110.out _ | exact BK101.out)⟩
       have n4_ : Aside0 (((((w19.setCell ⟨gb110, 0, none⟩ (.string ((rd_T54 ((rd_T52 t104 x5_1).vars) x6_2).name))).setCell ⟨gb110, 1, none⟩ (.int .i64 ((rd_T54 ((rd_T52 t104 x5_1).vars) x6_2).n))).setCell ⟨gb110, 2, none⟩ (.int .i64 ((rd_T54 ((rd_T52 t104 x5_1).vars) x6_2).last))).setCell ⟨gb110, 3, none⟩ (.bool ((rd_T54 ((rd_T52 t104 x5_1).vars) x6_2).taint))).heap[gb110]? = some (.cells #[.string ((rd_T54 ((rd_T52 t104 x5_1).vars) x6_2).name), .int .i64 ((rd_T54 ((rd_T52 t104 x5_1).vars) x6_2).n), .int .i64 ((rd_T54 ((rd_T52 t104 x5_1).vars) x6_2).last), .bool ((rd_T54 ((rd_T52 t104 x5_1).vars) x6_2).taint)] 54 (0, 0))) := ⟨by (with_reducible repeat (first | refine bN ?_ _ | refine bD ?_ | refine bA ?_ _)); refine blk_put (cs := #[.string ((rd_T54 ((rd_T52 t104 x5_1).vars) x6_2).name), .int .i64 ((rd_T54 ((rd_T52 t104 x5_1).vars) x6_2).n), .int .i64 ((rd_T54 ((rd_T52 t104 x5_1).vars) x6_2).last), .bool false]) ?_ 3 _ rfl; (with_reducible repeat (first | refine bN ?_ _ | refine bD ?_ | refine bA ?_ _)); refine blk_put (cs := #[.string ((rd_T54 ((rd_T52 t104 x5_1).vars) x6_2).name), .int .i64 ((rd_T54 ((rd_T52 t104 x5_1).vars) x6_2).n), .int .i64 0, .bool false]) ?_ 2 _ rfl; (with_reducible repeat (first | refine bN ?_ _ | refine bD ?_ | refine bA ?_ _)); refine blk_put (cs := #[.string ((rd_T54 ((rd_T52 t104 x5_1).vars) x6_2).name), .int .i64 0, .int .i64 0, .bool false]) ?_ 1 _ rfl; (with_reducible repeat (first | refine bN ?_ _ | refine bD ?_ | refine bA ?_ _)); refine blk_put (cs := #[.string (⟨#[]⟩ : ByteArray), .int .i64 0, .int .i64 0, .bool false]) ?_ 0 _ rfl; (with_reducible repeat (first | refine bN ?_ _ | refine bD ?_ | refine bA ?_ _)); exact BK110.out⟩
       have n5_ : Aside0 (Below w.heap.size w ((((w19.setCell ⟨gb110, 0, none⟩ (.string ((rd_T54 ((rd_T52 t104 x5_1).vars) x6_2).name))).setCell ⟨gb110, 1, none⟩ (.int .i64 ((rd_T54 ((rd_T52 t104 x5_1).vars) x6_2).n))).setCell ⟨gb110, 2, none⟩ (.int .i64 ((rd_T54 ((rd_T52 t104 x5_1).vars) x6_2).last))).setCell ⟨gb110, 3, none⟩ (.bool ((rd_T54 ((rd_T52 t104 x5_1).vars) x6_2).taint)))) := ⟨by repeat (first | (with_reducible first | exact HB.out | apply lA | apply lN | apply lD | refine lS ?_ GE101.out | refine lS ?_ GE110.out) | exact HB.out)⟩
       (try clear HO_4)
       (try clear HL107_1)
       (try clear HL108_1)
       (try clear BK101)
       (try clear BK110)
       (try clear HB)
       generalize ((((w19.setCell ⟨gb110, 0, none⟩ (.string ((rd_T54 ((rd_T52 t104 x5_1).vars) x6_2).name))).setCell ⟨gb110, 1, none⟩ (.int .i64 ((rd_T54 ((rd_T52 t104 x5_1).vars) x6_2).n))).setCell ⟨gb110, 2, none⟩ (.int .i64 ((rd_T54 ((rd_T52 t104 x5_1).vars) x6_2).last))).setCell ⟨gb110, 3, none⟩ (.bool ((rd_T54 ((rd_T52 t104 x5_1).vars) x6_2).taint))) = w41 at n0_ n1_ n2_ n3_ n4_ n5_ ⊢
       have HO_4 := n0_
       have HL107_1 := n1_
       have HL108_1 := n2_
       have BK101 := n3_
       have BK110 := n4_
       have HB := n5_
       clear n0_ n1_ n2_ n3_ n4_ n5_
       replace HO_4 := am (Kd.S_drew HO_4.out)
       replace HL107_1 := am (Kd.R_drew HL107_1.out)
       replace HL108_1 := am (Kd.R_drew HL108_1.out)
       replace BK101 := am (blk_drew BK101.out)
       replace BK110 := am (blk_drew BK110.out)
       replace HB := am (below_drew1 HB.out)
       have p111 : 0 ≤ (x5_1 : Int) := of_decide_eq_true (by first | (with_reducible assumption) | assumption)
       have q111 : x5_1 < (t104.length : Int) := of_decide_eq_true (by first | (with_reducible assumption) | assumption)
       obtain ⟨ad111, A111_1, c111_1, e111, hx111_0, hx111_1, hl111_1, hi111_1⟩ := at_T52 (Kd.S_reads' HO_4.out).2.2 x5_1 p111 q111
       obtain rfl : ad107 = ad111 := (by injection e111)
       obtain ⟨ce111, hce111, hMe111, hcc111⟩ := Kd.S_get HO_4.out z52 x5_1 p111 (by first | exact q111 | exact of_decide_eq_true (by first | (with_reducible assumption) | assumption) | (have e_ := (Kd.S_reads' HO_4.out).1; omega))
       obtain ⟨ve111_1, rfl, ge111_1⟩ := k52_openM hMe111
       have hv111_1 := hcc111 1 _ rfl
       rw [add_field _ _ 1 (by omega)] at hv111_1
       replace hv111_1 := Option.some.inj (hv111_1.symm.trans hx111_1)
       rw [hv111_1] at ge111_1
       have HL111_1 := am (show Kd.R k54 54 _ _ _ _ ((rd_T52 t104 x5_1).vars) from ge111_1)
       clear hv111_1 ge111_1
       clear hcc111 hce111
       have HR111_1 := am hi111_1
       have HC111_1 := am hl111_1
       clear hi111_1 hl111_1
       replace p111 := eq_true p111
       replace q111 := eq_true q111
       refine start_ (n := 37) (S := fun w' => w'.cell? ⟨gb110, 0, none⟩ = some (.string ((rd_T54 ((rd_T52 t104 x5_1).vars) x6_2).name)) ∧ w'.cell? ⟨gb110, 1, none⟩ = some (.int .i64 ((rd_T54 ((rd_T52 t104 x5_1).vars) x6_2).n)) ∧ w'.cell? ⟨gb110, 2, none⟩ = some (.int .i64 ((rd_T54 ((rd_T52 t104 x5_1).vars) x6_2).last)) ∧ w'.cell? ⟨gb110, 3, none⟩ = some (.bool ((rd_T54 ((rd_T52 t104 x5_1).vars) x6_2).taint)) ∧ w'.cell? ⟨gb101, 0, none⟩ = some (.slice A0_0 l0_0.length c0_0) ∧ w'.cell? ⟨gb101, 1, none⟩ = some (.slice A0_1 l0_1.length c0_1) ∧ w'.cell? ⟨gb101, 2, none⟩ = some (.slice A0_2 l0_2.length c0_2) ∧ w'.cell? ⟨gb101, 3, none⟩ = some (.int .i64 a0_3) ∧ w'.cell? (ad107.add ((x5_1).toNat * 2)) = some (.int .i64 ((rd_T52 t104 x5_1).place)) ∧ w'.cell? ⟨(ad107.add ((x5_1).toNat * 2)).block, (ad107.add ((x5_1).toNat * 2)).off + 1, none⟩ = some (.slice A111_1 ((rd_T52 t104 x5_1).vars).length c111_1)) (ds := []) (bl 37 0) (by kernel_rfl) rfl rfl ⟨(blk_cell BK110.out 0).trans rfl, (blk_cell BK110.out 1).trans rfl, (blk_cell BK110.out 2).trans rfl, (blk_cell BK110.out 3).trans rfl, (blk_cell BK101.out 0).trans rfl, (blk_cell BK101.out 1).trans rfl, (blk_cell BK101.out 2).trans rfl, (blk_cell BK101.out 3).trans rfl, hx111_0, hx111_1⟩ (fun hHeld => ?_); refine with_tabW lambrequinlaw22_InterpReaches.tab12 lambrequinlaw22_InterpReaches.bits12 (fun HT_ HW_ => ?_)
       generalize w41.drew = w42 at HO_4 HL107_1 HL108_1 BK101 BK110 HB HL111_1 HR111_1 hx111_0 hx111_1 hHeld ⊢
       refine pure_ (i := 0) (N := some 46) (v := ?_) (a' := ?_) (bl 37 1) rfl rfl (any_of HT_.out (by kernel_rfl)) (fun _ _ _ h => h) (Or.inl ⟨by rfl, ?_⟩) ?_ ?_
       rotate_left
       ·intro w'
        go_simp
        with_reducible rfl
       rotate_left
       ·simp only [Act.put, sA, sZ, sS, i64_w, i32_w]
        rfl
       refine take_ (i := 1) (N := some 47) (v := ?_) (a' := ?_) (bl 37 3) rfl rfl (take_ofW HT_.out HW_.out (by kernel_rfl)) (fun _ _ _ h => h) (Or.inl ⟨by rfl, ?_⟩) hHeld ?_ ?_
       rotate_left
       ·rintro w' ⟨s0, s1, s2, s3, s4, s5, s6, s7, s8, s9⟩
        go_simp
        with_reducible rfl
       rotate_left
       ·simp only [Act.put, sA, sZ, sS, i64_w, i32_w]
        rfl
       refine pure_ (i := 2) (N := some 48) (v := ?_) (a' := ?_) (bl 37 7) rfl rfl (any_of HT_.out (by kernel_rfl)) (fun _ _ _ h => h) (Or.inl ⟨by rfl, ?_⟩) ?_ ?_
       rotate_left
       ·intro w'
        go_simp
        with_reducible rfl
       rotate_left
       ·simp only [Act.put, sA, sZ, sS, i64_w, i32_w]
        rfl
       refine pure_ (i := 3) (N := some 49) (v := ?_) (a' := ?_) (bl 37 15) rfl rfl (any_of HT_.out (by kernel_rfl)) (fun _ _ _ h => h) (Or.inl ⟨by rfl, ?_⟩) ?_ ?_
       rotate_left
       ·intro w'
        go_simp
        with_reducible rfl
       rotate_left
       ·simp only [Act.put, sA, sZ, sS, i64_w, i32_w]
        rfl
       refine pure_ (i := 4) (N := some 50) (v := ?_) (a' := ?_) (bl 37 31) rfl rfl (any_of HT_.out (by kernel_rfl)) (fun _ _ _ h => h) (Or.inl ⟨by rfl, ?_⟩) ?_ ?_
       rotate_left
       ·intro w'
        go_simp
        with_reducible rfl
       rotate_left
       ·simp only [Act.put, sA, sZ, sS, i64_w, i32_w]
        rfl
       refine pure_ (i := 6) (N := some 52) (v := ?_) (a' := ?_) (bl 37 95) rfl rfl (any_of HT_.out (by kernel_rfl)) (fun _ _ _ h => h) (Or.inl ⟨by rfl, ?_⟩) ?_ ?_
       rotate_left
       ·intro w'
        go_simp
        with_reducible rfl
       rotate_left
       ·simp only [Act.put, sA, sZ, sS, i64_w, i32_w]
        rfl
       refine pure_ (i := 7) (N := some 53) (v := ?_) (a' := ?_) (bl 37 223) rfl rfl (any_of HT_.out (by kernel_rfl)) (fun _ _ _ h => h) (Or.inl ⟨by rfl, ?_⟩) ?_ ?_
       rotate_left
       ·intro w'
        go_simp
        with_reducible rfl
       rotate_left
       ·simp only [Act.put, sA, sZ, sS, i64_w, i32_w]
        rfl
       refine pure_ (i := 8) (N := some 54) (v := ?_) (a' := ?_) (bl 37 479) rfl rfl (any_of HT_.out (by kernel_rfl)) (fun _ _ _ h => h) (Or.inl ⟨by rfl, ?_⟩) ?_ ?_
       rotate_left
       ·intro w'
        go_simp
        with_reducible rfl
       rotate_left
       ·simp only [Act.put, sA, sZ, sS, i64_w, i32_w]
        rfl
       refine pure_ (i := 9) (N := some 55) (v := ?_) (a' := ?_) (bl 37 991) rfl rfl (any_of HT_.out (by kernel_rfl)) (fun _ _ _ h => h) (Or.inl ⟨by rfl, ?_⟩) ?_ ?_
       rotate_left
       ·intro w'
        go_simp
        with_reducible rfl
       rotate_left
       ·simp only [Act.put, sA, sZ, sS, i64_w, i32_w]
        rfl
       refine pure_ (i := 11) (N := some 57) (v := ?_) (a' := ?_) (bl 37 3039) rfl rfl (any_of HT_.out (by kernel_rfl)) (fun _ _ _ h => h) (Or.inl ⟨by rfl, ?_⟩) ?_ ?_
       rotate_left
       ·intro w'
        go_simp
        with_reducible rfl
       rotate_left
       ·simp only [Act.put, sA, sZ, sS, i64_w, i32_w]
        rfl
       refine pure_ (i := 13) (N := some 59) (v := ?_) (a' := ?_) (bl 37 11231) rfl rfl (any_of HT_.out (by kernel_rfl)) (fun _ _ _ h => h) (Or.inl ⟨by rfl, ?_⟩) ?_ ?_
       rotate_left
       ·intro w'
        go_simp
        with_reducible rfl
       rotate_left
       ·simp only [Act.put, sA, sZ, sS, i64_w, i32_w]
        rfl
       refine take_ (i := 5) (N := some 51) (v := ?_) (a' := ?_) (bl 37 11263) rfl rfl (take_ofW HT_.out HW_.out (by kernel_rfl)) (fun _ _ _ h => h) (Or.inl ⟨by rfl, ?_⟩) hHeld ?_ ?_
       rotate_left
       ·rintro w' ⟨s0, s1, s2, s3, s4, s5, s6, s7, s8, s9⟩
        go_simp
        with_reducible rfl
       rotate_left
       ·simp only [Act.put, sA, sZ, sS, i64_w, i32_w]
        rfl
       refine take_ (i := 10) (N := some 56) (v := ?_) (a' := ?_) (bl 37 12287) rfl rfl (take_ofW HT_.out HW_.out (by kernel_rfl)) (fun _ _ _ h => h) (Or.inl ⟨by rfl, ?_⟩) hHeld ?_ ?_
       rotate_left
       ·rintro w' ⟨s0, s1, s2, s3, s4, s5, s6, s7, s8, s9⟩
        go_simp
        with_reducible rfl
       rotate_left
       ·simp only [Act.put, sA, sZ, sS, i64_w, i32_w]
        rfl
       refine take_ (i := 12) (N := some 58) (v := ?_) (a' := ?_) (bl 37 16383) rfl rfl (take_ofW HT_.out HW_.out (by kernel_rfl)) (fun _ _ _ h => h) (Or.inl ⟨by rfl, ?_⟩) hHeld ?_ ?_
       rotate_left
       ·rintro w' ⟨s0, s1, s2, s3, s4, s5, s6, s7, s8, s9⟩
        go_simp
        with_reducible rfl
       rotate_left
       ·simp only [Act.put, sA, sZ, sS, i64_w, i32_w]
        rfl
       refine take_ (i := 14) (N := some 60) (v := ?_) (a' := ?_) (bl 37 32767) rfl rfl (take_ofW HT_.out HW_.out (by kernel_rfl)) (fun _ _ _ h => h) (Or.inl ⟨by rfl, ?_⟩) hHeld ?_ ?_
       rotate_left
       ·rintro w' ⟨s0, s1, s2, s3, s4, s5, s6, s7, s8, s9⟩
        go_simp
        with_reducible rfl
       rotate_left
       ·simp only [Act.put, sA, sZ, sS, i64_w, i32_w]
        rfl
       refine one_ (i := 15) (N := some 61) (bl 37 65535) rfl rfl (one_of HT_.out (by kernel_rfl)) (by decide) (fun K hK => ?_)
       refine goes_ Try.func23 (by kernel_rfl) rfl #[.slice A0_0 l0_0.length c0_0, .int .i64 ((rd_T52 t104 x5_1).place), .string ((rd_T54 ((rd_T52 t104 x5_1).vars) x6_2).name), .int .i64 ((rd_T54 ((rd_T52 t104 x5_1).vars) x6_2).last)] (by rfl) rfl rfl (by (try simp only [List.map_toArray, List.map_cons, List.map_nil]); first | done | rfl | (simp only [List.length_drop, List.length_take]; rfl)) ?_
       with_reducible refine (cfg_Reaches.calls k2 _ _ l0_0 ((rd_T52 t104 x5_1).place) ((rd_T54 ((rd_T52 t104 x5_1).vars) x6_2).name) ((rd_T54 ((rd_T52 t104 x5_1).vars) x6_2).last) false _ ?side1 ?side2 A23.out).mono ?_
       (case side1 => repeat (first | exact (Kd.C_below HR0_0.out HB.out) | (with_reducible refine Kd.C_alloc ?_ _) | (with_reducible refine Kd.C_drewN ?_ _) | (with_reducible refine Kd.C_drew ?_)))
       (case side2 => exact HC0_0.out)
       rintro e w43 ⟨rfl, hb⟩
       have HS8_ := (hb.cell (blt_ (hHeld.2.2.2.2.2.2.2.2.1))).trans (hHeld.2.2.2.2.2.2.2.2.1)
       have HS9_ := (hb.cell (blt_ (hHeld.2.2.2.2.2.2.2.2.2))).trans (hHeld.2.2.2.2.2.2.2.2.2)
       refine ⟨_, rfl, ?_⟩
       replace HO_4 := am (Kd.S_below (by (with_reducible repeat (first | apply Kd.S_alloc | apply Kd.S_drewN | apply Kd.S_drew)); exact HO_4.out) hb)
       replace HL107_1 := am (Kd.R_below (by (with_reducible repeat (first | apply Ra | apply Rn | apply Rd)); exact HL107_1.out) hb)
       replace HL108_1 := am (Kd.R_below (by (with_reducible repeat (first | apply Ra | apply Rn | apply Rd)); exact HL108_1.out) hb)
       replace HL111_1 := am (Kd.R_below (by (with_reducible repeat (first | apply Ra | apply Rn | apply Rd)); exact HL111_1.out) hb)
       replace BK101 := am (blk_below (g := gb101) (o := .cells #[.slice A0_0 l0_0.length c0_0, .slice A0_1 l0_1.length c0_1, .slice A0_2 l0_2.length c0_2, .int .i64 a0_3] 43 (0, 0)) (by (with_reducible repeat (first | refine bN ?_ _ | refine bD ?_ | refine bA ?_ _)); exact BK101.out) hb)
       replace BK110 := am (blk_below (g := gb110) (o := .cells #[.string ((rd_T54 ((rd_T52 t104 x5_1).vars) x6_2).name), .int .i64 ((rd_T54 ((rd_T52 t104 x5_1).vars) x6_2).n), .int .i64 ((rd_T54 ((rd_T52 t104 x5_1).vars) x6_2).last), .bool ((rd_T54 ((rd_T52 t104 x5_1).vars) x6_2).taint)] 54 (0, 0)) (by (with_reducible repeat (first | refine bN ?_ _ | refine bD ?_ | refine bA ?_ _)); exact BK110.out) hb)
       replace HR111_1 := am (Kd.C_below (by first | (with_reducible exact HR111_1.out) | (with_reducible exact Kd.C_drewN HR111_1.out _) | (repeat (first | (with_reducible exact HR111_1.out) | (with_reducible refine Kd.C_alloc ?_ _) | (with_reducible refine Kd.C_drewN ?_ _) | (with_reducible refine Kd.C_drew ?_) | exact HR111_1.out))) hb)
       replace HB := am (below_step (by repeat (first | (with_reducible first | exact HB.out | apply lA | apply lN | apply lD | refine lS ?_ GE101.out | refine lS ?_ GE110.out) | exact HB.out)) hb)
       (try clear hb)
       (try clear hb2)
       (try clear hk)
       (try clear hi)
       refine hK.out _ _ ⟨(blk_cell BK110.out 0).trans rfl, (blk_cell BK110.out 1).trans rfl, (blk_cell BK110.out 2).trans rfl, (blk_cell BK110.out 3).trans rfl, (blk_cell BK101.out 0).trans rfl, (blk_cell BK101.out 1).trans rfl, (blk_cell BK101.out 2).trans rfl, (blk_cell BK101.out 3).trans rfl, HS8_, HS9_⟩ (fun hHeld => ?_)
       clear hK K
       refine norm_ (a' := ?_) ?_ ?_
       rotate_left
       ·show Act.put _ (some 61) _ = _
        simp only [Act.put, sA, sZ, sS, i64_w, i32_w]
        rfl
       refine pure_ (i := 16) (N := some 62) (v := ?_) (a' := ?_) (bl 37 131071) rfl rfl (any_of HT_.out (by kernel_rfl)) (fun _ _ _ h => h) (Or.inl ⟨by rfl, ?_⟩) ?_ ?_
       rotate_left
       ·intro w'
        go_simp
        with_reducible rfl
       rotate_left
       ·simp only [Act.put, sA, sZ, sS, i64_w, i32_w]
        rfl
       refine pure_ (i := 17) (N := some 63) (v := ?_) (a' := ?_) (bl 37 262143) rfl rfl (any_of HT_.out (by kernel_rfl)) (fun _ _ _ h => h) (Or.inl ⟨by rfl, ?_⟩) ?_ ?_
       rotate_left
       ·intro w'
        go_simp
        with_reducible rfl
       rotate_left
       ·simp only [Act.put, sA, sZ, sS, i64_w, i32_w]
        rfl
       refine pure_ (i := 18) (N := some 64) (v := ?_) (a' := ?_) (bl 37 524287) rfl rfl (any_of HT_.out (by kernel_rfl)) (fun _ _ _ h => h) (Or.inl ⟨by rfl, ?_⟩) ?_ ?_
       rotate_left
       ·intro w'
        go_simp
        with_reducible rfl
       rotate_left
       ·simp only [Act.put, sA, sZ, sS, i64_w, i32_w]
        rfl
       refine pure_ (i := 19) (N := some 65) (v := undef) (a' := ?_) (bl 37 1048575) rfl rfl (any_of HT_.out (by kernel_rfl)) (fun _ _ _ h => h) (Or.inr ⟨by rfl, rfl⟩) ?_ ?_
       rotate_left
       ·simp only [Act.put, sA, sZ, sS, i64_w, i32_w]
        rfl
       refine pure_ (i := 20) (N := some 66) (v := undef) (a' := ?_) (bl 37 2097151) rfl rfl (any_of HT_.out (by kernel_rfl)) (fun _ _ _ h => h) (Or.inr ⟨by rfl, rfl⟩) ?_ ?_
       rotate_left
       ·simp only [Act.put, sA, sZ, sS, i64_w, i32_w]
        rfl
       refine pure_ (i := 21) (N := some 67) (v := undef) (a' := ?_) (bl 37 4194303) rfl rfl (any_of HT_.out (by kernel_rfl)) (fun _ _ _ h => h) (Or.inr ⟨by rfl, rfl⟩) ?_ ?_
       rotate_left
       ·simp only [Act.put, sA, sZ, sS, i64_w, i32_w]
        rfl
       refine pure_ (i := 22) (N := some 68) (v := undef) (a' := ?_) (bl 37 8388607) rfl rfl (any_of HT_.out (by kernel_rfl)) (fun _ _ _ h => h) (Or.inr ⟨by rfl, rfl⟩) ?_ ?_
       rotate_left
       ·simp only [Act.put, sA, sZ, sS, i64_w, i32_w]
        rfl
       refine pure_ (i := 23) (N := some 69) (v := undef) (a' := ?_) (bl 37 16777215) rfl rfl (any_of HT_.out (by kernel_rfl)) (fun _ _ _ h => h) (Or.inr ⟨by rfl, rfl⟩) ?_ ?_
       rotate_left
       ·simp only [Act.put, sA, sZ, sS, i64_w, i32_w]
        rfl
       refine pure_ (i := 24) (N := some 70) (v := undef) (a' := ?_) (bl 37 33554431) rfl rfl (any_of HT_.out (by kernel_rfl)) (fun _ _ _ h => h) (Or.inr ⟨by rfl, rfl⟩) ?_ ?_
       rotate_left
       ·simp only [Act.put, sA, sZ, sS, i64_w, i32_w]
        rfl
       refine pure_ (i := 25) (N := some 71) (v := undef) (a' := ?_) (bl 37 67108863) rfl rfl (any_of HT_.out (by kernel_rfl)) (fun _ _ _ h => h) (Or.inr ⟨by rfl, rfl⟩) ?_ ?_
       rotate_left
       ·simp only [Act.put, sA, sZ, sS, i64_w, i32_w]
        rfl
       refine pure_ (i := 26) (N := some 72) (v := undef) (a' := ?_) (bl 37 134217727) rfl rfl (any_of HT_.out (by kernel_rfl)) (fun _ _ _ h => h) (Or.inr ⟨by rfl, rfl⟩) ?_ ?_
       rotate_left
       ·simp only [Act.put, sA, sZ, sS, i64_w, i32_w]
        rfl
       refine pure_ (i := 27) (N := some 73) (v := undef) (a' := ?_) (bl 37 268435455) rfl rfl (any_of HT_.out (by kernel_rfl)) (fun _ _ _ h => h) (Or.inr ⟨by rfl, rfl⟩) ?_ ?_
       rotate_left
       ·simp only [Act.put, sA, sZ, sS, i64_w, i32_w]
        rfl
       refine pure_ (i := 28) (N := some 74) (v := undef) (a' := ?_) (bl 37 536870911) rfl rfl (any_of HT_.out (by kernel_rfl)) (fun _ _ _ h => h) (Or.inr ⟨by rfl, rfl⟩) ?_ ?_
       rotate_left
       ·simp only [Act.put, sA, sZ, sS, i64_w, i32_w]
        rfl
       refine pure_ (i := 29) (N := some 75) (v := undef) (a' := ?_) (bl 37 1073741823) rfl rfl (any_of HT_.out (by kernel_rfl)) (fun _ _ _ h => h) (Or.inr ⟨by rfl, rfl⟩) ?_ ?_
       rotate_left
       ·simp only [Act.put, sA, sZ, sS, i64_w, i32_w]
        rfl
       refine pure_ (i := 30) (N := some 76) (v := undef) (a' := ?_) (bl 37 2147483647) rfl rfl (any_of HT_.out (by kernel_rfl)) (fun _ _ _ h => h) (Or.inr ⟨by rfl, rfl⟩) ?_ ?_
       rotate_left
       ·simp only [Act.put, sA, sZ, sS, i64_w, i32_w]
        rfl
       refine pure_ (i := 31) (N := some 77) (v := undef) (a' := ?_) (bl 37 4294967295) rfl rfl (any_of HT_.out (by kernel_rfl)) (fun _ _ _ h => h) (Or.inr ⟨by rfl, rfl⟩) ?_ ?_
       rotate_left
       ·simp only [Act.put, sA, sZ, sS, i64_w, i32_w]
        rfl
       refine pure_ (i := 32) (N := some 78) (v := undef) (a' := ?_) (bl 37 8589934591) rfl rfl (any_of HT_.out (by kernel_rfl)) (fun _ _ _ h => h) (Or.inr ⟨by rfl, rfl⟩) ?_ ?_
       rotate_left
       ·simp only [Act.put, sA, sZ, sS, i64_w, i32_w]
        rfl
       refine pure_ (i := 33) (N := some 79) (v := undef) (a' := ?_) (bl 37 17179869183) rfl rfl (any_of HT_.out (by kernel_rfl)) (fun _ _ _ h => h) (Or.inr ⟨by rfl, rfl⟩) ?_ ?_
       rotate_left
       ·simp only [Act.put, sA, sZ, sS, i64_w, i32_w]
        rfl
       refine pure_ (i := 34) (N := some 80) (v := undef) (a' := ?_) (bl 37 34359738367) rfl rfl (any_of HT_.out (by kernel_rfl)) (fun _ _ _ h => h) (Or.inr ⟨by rfl, rfl⟩) ?_ ?_
       rotate_left
       ·simp only [Act.put, sA, sZ, sS, i64_w, i32_w]
        rfl
       refine pure_ (i := 35) (N := some 81) (v := undef) (a' := ?_) (bl 37 68719476735) rfl rfl (any_of HT_.out (by kernel_rfl)) (fun _ _ _ h => h) (Or.inr ⟨by rfl, rfl⟩) ?_ ?_
       rotate_left
       ·simp only [Act.put, sA, sZ, sS, i64_w, i32_w]
        rfl
       refine pure_ (i := 36) (N := some 82) (v := ?_) (a' := ?_) (bl 37 137438953471) rfl rfl (any_of HT_.out (by kernel_rfl)) (fun _ _ _ h => h) (Or.inl ⟨by rfl, ?_⟩) ?_ ?_
       rotate_left
       ·intro w'
        go_simp
        with_reducible rfl
       rotate_left
       ·simp only [Act.put, sA, sZ, sS, i64_w, i32_w]
        rfl
       refine done_ (done_of HT_.out (by kernel_rfl)) ?_
       try go_wp2
       go_meet
       case rel => exact ⟨_, (true), (by first | rfl | (simp; done) | (simp [*]; done)), H', ⟨by have := HK1.out; have := HK2.out; first | omega | exact Nat.le_refl _⟩, ⟨by (with_reducible repeat (first | apply Kd.S_alloc | apply Kd.S_drewN | apply Kd.S_drew)); exact HO_4.out⟩, ⟨by (with_reducible repeat (first | refine bN ?_ _ | refine bD ?_ | refine bA ?_ _)); first | exact BK101.out | (rw [← Nbq27.out]; exact BK101.out) | (rw [← Nbq46.out]; exact BK101.out)⟩, ⟨by (with_reducible repeat (first | refine bN ?_ _ | refine bD ?_ | refine bA ?_ _)); first | exact BK110.out | (rw [← Nbq27.out]; exact BK110.out) | (rw [← Nbq46.out]; exact BK110.out)⟩, ⟨by repeat (first | (with_reducible first | exact HB.out | apply lA | apply lN | apply lD | refine lS ?_ GE101.out | refine lS ?_ GE110.out) | exact HB.out)⟩⟩
      subst c24
      have H1 : (if ((rd_T54 ((rd_T52 t104 x5_1).vars) x6_2).last) < 0 then (if ((rd_T54 ((rd_T52 t104 x5_1).vars) x6_2).n) = 0 then (if (rd_T54 ((rd_T52 t104 x5_1).vars) x6_2).taint = true then (lambrequinlaw22_InterpReaches.j2 k2 t102 t104 x5_1 x6_2 true l0_0 l0_1 l0_2 a0_3) else (lambrequinlaw22_InterpReaches.j2 k2 t102 t104 x5_1 x6_2 (((rd_T54 ((rd_T52 t104 x5_1).vars) x6_2).last) != (-1)) l0_0 l0_1 l0_2 a0_3)) else (lambrequinlaw22_InterpReaches.j2 k2 t102 t104 x5_1 x6_2 true l0_0 l0_1 l0_2 a0_3)) else (lambrequinlaw22_InterpReaches.j2 k2 t102 t104 x5_1 x6_2 false l0_0 l0_1 l0_2 a0_3)) = some r := by rw [if_pos rfl] at H; exact H
      clear H
      have H := H1
      clear H1
      as_aux_lemma =>
      by_cases c25 : ((rd_T54 ((rd_T52 t104 x5_1).vars) x6_2).last) < 0
      rotate_left
      ·rw [if_neg c25] at H
       have c25b0 : decide (((rd_T54 ((rd_T52 t104 x5_1).vars) x6_2).last) < 0) = false := decide_eq_false c25
       clear c25
       have H' := am H
       clear H
       try go_wp2
       have n0_ : Aside0 (Kd.S k52 52 ((((w19.setCell ⟨gb110, 0, none⟩ (.string ((rd_T54 ((rd_T52 t104 x5_1).vars) x6_2).name))).setCell ⟨gb110, 1, none⟩ (.int .i64 ((rd_T54 ((rd_T52 t104 x5_1).vars) x6_2).n))).setCell ⟨gb110, 2, none⟩ (.int .i64 ((rd_T54 ((rd_T52 t104 x5_1).vars) x6_2).last))).setCell ⟨gb110, 3, none⟩ (.bool ((rd_T54 ((rd_T52 t104 x5_1).vars) x6_2).taint))) w.heap.size (fun k_ => k_ ≠ gb110) (.slice (some ad107) t104.length co13) t104) := ⟨by (with_reducible repeat (first | apply Kd.S_alloc | apply Kd.S_drewN | apply Kd.S_drew)); exact Kd.S_mono (Kd.S_far (p := ⟨gb110, 3, none⟩) (Kd.S_far (p := ⟨gb110, 2, none⟩) (Kd.S_far (p := ⟨gb110, 1, none⟩) (Kd.S_far (p := ⟨gb110, 0, none⟩) (Kd.S_mono HO_4.out (fun k_ hk => (⟨hk, hk.2⟩ : _ ∧ k_ ≠ gb110))) (fun _ hk => hk.2) _) (fun _ hk => hk.2) _) (fun _ hk => hk.2) _) (fun _ hk => hk.2) _) (fun _ hk => hk.1.2)⟩
       have n1_ : Aside0 (Kd.R k54 54 ((((w19.setCell ⟨gb110, 0, none⟩ (.string ((rd_T54 ((rd_T52 t104 x5_1).vars) x6_2).name))).setCell ⟨gb110, 1, none⟩ (.int .i64 ((rd_T54 ((rd_T52 t104 x5_1).vars) x6_2).n))).setCell ⟨gb110, 2, none⟩ (.int .i64 ((rd_T54 ((rd_T52 t104 x5_1).vars) x6_2).last))).setCell ⟨gb110, 3, none⟩ (.bool ((rd_T54 ((rd_T52 t104 x5_1).vars) x6_2).taint))) w.heap.size (fun k_ => some k_ ≠ (.slice (some ad107) t104.length co13 : Value).ownBlock ∧ k_ ≠ gb110) (.slice (some ad109) ((rd_T52 t104 x5_1).vars).length c107_1) ((rd_T52 t104 x5_1).vars)) := ⟨by (with_reducible repeat (first | apply Ra | apply Rn | apply Rd)); exact Kd.R_mono (Kd.R_far (p := ⟨gb110, 3, none⟩) (Kd.R_far (p := ⟨gb110, 2, none⟩) (Kd.R_far (p := ⟨gb110, 1, none⟩) (Kd.R_far (p := ⟨gb110, 0, none⟩) (Kd.R_mono HL107_1.out (fun k_ hk => (⟨hk, hk.2⟩ : _ ∧ k_ ≠ gb110))) (fun _ hk => hk.2) _) (fun _ hk => hk.2) _) (fun _ hk => hk.2) _) (fun _ hk => hk.2) _) (fun _ hk => ⟨hk.1.1.2, hk.1.2⟩)⟩
       have n2_ : Aside0 (Kd.R k54 54 ((((w19.setCell ⟨gb110, 0, none⟩ (.string ((rd_T54 ((rd_T52 t104 x5_1).vars) x6_2).name))).setCell ⟨gb110, 1, none⟩ (.int .i64 ((rd_T54 ((rd_T52 t104 x5_1).vars) x6_2).n))).setCell ⟨gb110, 2, none⟩ (.int .i64 ((rd_T54 ((rd_T52 t104 x5_1).vars) x6_2).last))).setCell ⟨gb110, 3, none⟩ (.bool ((rd_T54 ((rd_T52 t104 x5_1).vars) x6_2).taint))) w.heap.size (fun k_ => some k_ ≠ (.slice (some ad107) t104.length co13 : Value).ownBlock ∧ k_ ≠ gb110) (.slice (some ad109) ((rd_T52 t104 x5_1).vars).length c107_1) ((rd_T52 t104 x5_1).vars)) := ⟨by (with_reducible repeat (first | apply Ra | apply Rn | apply Rd)); exact Kd.R_mono (Kd.R_far (p := ⟨gb110, 3, none⟩) (Kd.R_far (p := ⟨gb110, 2, none⟩) (Kd.R_far (p := ⟨gb110, 1, none⟩) (Kd.R_far (p := ⟨gb110, 0, none⟩) (Kd.R_mono HL108_1.out (fun k_ hk => (⟨hk, hk.2⟩ : _ ∧ k_ ≠ gb110))) (fun _ hk => hk.2) _) (fun _ hk => hk.2) _) (fun _ hk => hk.2) _) (fun _ hk => hk.2) _) (fun _ hk => ⟨hk.1.1.2, hk.1.2⟩)⟩
       have n3_ : Aside0 (((((w19.setCell ⟨gb110, 0, none⟩ (.string ((rd_T54 ((rd_T52 t104 x5_1).vars) x6_2).name))).setCell ⟨gb110, 1, none⟩ (.int .i64 ((rd_T54 ((rd_T52 t104 x5_1).vars) x6_2).n))).setCell ⟨gb110, 2, none⟩ (.int .i64 ((rd_T54 ((rd_T52 t104 x5_1).vars) x6_2).last))).setCell ⟨gb110, 3, none⟩ (.bool ((rd_T54 ((rd_T52 t104 x5_1).vars) x6_2).taint))).heap[gb101]? = some (.cells #[.slice A0_0 l0_0.length c0_0, .slice A0_1 l0_1.length c0_1, .slice A0_2 l0_2.length c0_2, .int .i64 a0_3] 43 (0, 0))) := ⟨by repeat (first | (with_reducible first | exact BK101.out | refine bN ?_ _ | refine bD ?_ | refine bA ?_ _) | refine blk_far ?_ NB101_110.out _ | exact BK101.out)⟩
       have n4_ : Aside0 (((((w19.setCell ⟨gb110, 0, none⟩ (.string ((rd_T54 ((rd_T52 t104 x5_1).vars) x6_2).name))).setCell ⟨gb110, 1, none⟩ (.int .i64 ((rd_T54 ((rd_T52 t104 x5_1).vars) x6_2).n))).setCell ⟨gb110, 2, none⟩ (.int .i64 ((rd_T54 ((rd_T52 t104 x5_1).vars) x6_2).last))).setCell ⟨gb110, 3, none⟩ (.bool ((rd_T54 ((rd_T52 t104 x5_1).vars) x6_2).taint))).heap[gb110]? = some (.cells #[.string ((rd_T54 ((rd_T52 t104 x5_1).vars) x6_2).name), .int .i64 ((rd_T54 ((rd_T52 t104 x5_1).vars) x6_2).n), .int .i64 ((rd_T54 ((rd_T52 t104 x5_1).vars) x6_2).last), .bool ((rd_T54 ((rd_T52 t104 x5_1).vars) x6_2).taint)] 54 (0, 0))) := ⟨by (with_reducible repeat (first | refine bN ?_ _ | refine bD ?_ | refine bA ?_ _)); refine blk_put (cs := #[.string ((rd_T54 ((rd_T52 t104 x5_1).vars) x6_2).name), .int .i64 ((rd_T54 ((rd_T52 t104 x5_1).vars) x6_2).n), .int .i64 ((rd_T54 ((rd_T52 t104 x5_1).vars) x6_2).last), .bool false]) ?_ 3 _ rfl; (with_reducible repeat (first | refine bN ?_ _ | refine bD ?_ | refine bA ?_ _)); refine blk_put (cs := #[.string ((rd_T54 ((rd_T52 t104 x5_1).vars) x6_2).name), .int .i64 ((rd_T54 ((rd_T52 t104 x5_1).vars) x6_2).n), .int .i64 0, .bool false]) ?_ 2 _ rfl; (with_reducible repeat (first | refine bN ?_ _ | refine bD ?_ | refine bA ?_ _)); refine blk_put (cs := #[.string ((rd_T54 ((rd_T52 t104 x5_1).vars) x6_2).name), .int .i64 0, .int .i64 0, .bool false]) ?_ 1 _ rfl; (with_reducible repeat (first | refine bN ?_ _ | refine bD ?_ | refine bA ?_ _)); refine blk_put (cs := #[.string (⟨#[]⟩ : ByteArray), .int .i64 0, .int .i64 0, .bool false]) ?_ 0 _ rfl; (with_reducible repeat (first | refine bN ?_ _ | refine bD ?_ | refine bA ?_ _)); exact BK110.out⟩
       have n5_ : Aside0 (Below w.heap.size w ((((w19.setCell ⟨gb110, 0, none⟩ (.string ((rd_T54 ((rd_T52 t104 x5_1).vars) x6_2).name))).setCell ⟨gb110, 1, none⟩ (.int .i64 ((rd_T54 ((rd_T52 t104 x5_1).vars) x6_2).n))).setCell ⟨gb110, 2, none⟩ (.int .i64 ((rd_T54 ((rd_T52 t104 x5_1).vars) x6_2).last))).setCell ⟨gb110, 3, none⟩ (.bool ((rd_T54 ((rd_T52 t104 x5_1).vars) x6_2).taint)))) := ⟨by repeat (first | (with_reducible first | exact HB.out | apply lA | apply lN | apply lD | refine lS ?_ GE101.out | refine lS ?_ GE110.out) | exact HB.out)⟩
       (try clear HO_4)
       (try clear HL107_1)
       (try clear HL108_1)
       (try clear BK101)
       (try clear BK110)
       (try clear HB)
       generalize ((((w19.setCell ⟨gb110, 0, none⟩ (.string ((rd_T54 ((rd_T52 t104 x5_1).vars) x6_2).name))).setCell ⟨gb110, 1, none⟩ (.int .i64 ((rd_T54 ((rd_T52 t104 x5_1).vars) x6_2).n))).setCell ⟨gb110, 2, none⟩ (.int .i64 ((rd_T54 ((rd_T52 t104 x5_1).vars) x6_2).last))).setCell ⟨gb110, 3, none⟩ (.bool ((rd_T54 ((rd_T52 t104 x5_1).vars) x6_2).taint))) = w38 at n0_ n1_ n2_ n3_ n4_ n5_ ⊢
       have HO_4 := n0_
       have HL107_1 := n1_
       have HL108_1 := n2_
       have BK101 := n3_
       have BK110 := n4_
       have HB := n5_
       clear n0_ n1_ n2_ n3_ n4_ n5_
       replace HO_4 := am (Kd.S_drew HO_4.out)
       replace HL107_1 := am (Kd.R_drew HL107_1.out)
       replace HL108_1 := am (Kd.R_drew HL108_1.out)
       replace BK101 := am (blk_drew BK101.out)
       replace BK110 := am (blk_drew BK110.out)
       replace HB := am (below_drew1 HB.out)
       have p111 : 0 ≤ (x5_1 : Int) := of_decide_eq_true (by first | (with_reducible assumption) | assumption)
       have q111 : x5_1 < (t104.length : Int) := of_decide_eq_true (by first | (with_reducible assumption) | assumption)
       obtain ⟨ad111, A111_1, c111_1, e111, hx111_0, hx111_1, hl111_1, hi111_1⟩ := at_T52 (Kd.S_reads' HO_4.out).2.2 x5_1 p111 q111
       obtain rfl : ad107 = ad111 := (by injection e111)
       obtain ⟨ce111, hce111, hMe111, hcc111⟩ := Kd.S_get HO_4.out z52 x5_1 p111 (by first | exact q111 | exact of_decide_eq_true (by first | (with_reducible assumption) | assumption) | (have e_ := (Kd.S_reads' HO_4.out).1; omega))
       obtain ⟨ve111_1, rfl, ge111_1⟩ := k52_openM hMe111
       have hv111_1 := hcc111 1 _ rfl
       rw [add_field _ _ 1 (by omega)] at hv111_1
       replace hv111_1 := Option.some.inj (hv111_1.symm.trans hx111_1)
       rw [hv111_1] at ge111_1
       have HL111_1 := am (show Kd.R k54 54 _ _ _ _ ((rd_T52 t104 x5_1).vars) from ge111_1)
       clear hv111_1 ge111_1
       clear hcc111 hce111
       have HR111_1 := am hi111_1
       have HC111_1 := am hl111_1
       clear hi111_1 hl111_1
       replace p111 := eq_true p111
       replace q111 := eq_true q111
       refine start_ (n := 37) (S := fun w' => w'.cell? ⟨gb110, 0, none⟩ = some (.string ((rd_T54 ((rd_T52 t104 x5_1).vars) x6_2).name)) ∧ w'.cell? ⟨gb110, 1, none⟩ = some (.int .i64 ((rd_T54 ((rd_T52 t104 x5_1).vars) x6_2).n)) ∧ w'.cell? ⟨gb110, 2, none⟩ = some (.int .i64 ((rd_T54 ((rd_T52 t104 x5_1).vars) x6_2).last)) ∧ w'.cell? ⟨gb110, 3, none⟩ = some (.bool ((rd_T54 ((rd_T52 t104 x5_1).vars) x6_2).taint)) ∧ w'.cell? ⟨gb101, 0, none⟩ = some (.slice A0_0 l0_0.length c0_0) ∧ w'.cell? ⟨gb101, 1, none⟩ = some (.slice A0_1 l0_1.length c0_1) ∧ w'.cell? ⟨gb101, 2, none⟩ = some (.slice A0_2 l0_2.length c0_2) ∧ w'.cell? ⟨gb101, 3, none⟩ = some (.int .i64 a0_3) ∧ w'.cell? (ad107.add ((x5_1).toNat * 2)) = some (.int .i64 ((rd_T52 t104 x5_1).place)) ∧ w'.cell? ⟨(ad107.add ((x5_1).toNat * 2)).block, (ad107.add ((x5_1).toNat * 2)).off + 1, none⟩ = some (.slice A111_1 ((rd_T52 t104 x5_1).vars).length c111_1)) (ds := []) (bl 37 0) (by kernel_rfl) rfl rfl ⟨(blk_cell BK110.out 0).trans rfl, (blk_cell BK110.out 1).trans rfl, (blk_cell BK110.out 2).trans rfl, (blk_cell BK110.out 3).trans rfl, (blk_cell BK101.out 0).trans rfl, (blk_cell BK101.out 1).trans rfl, (blk_cell BK101.out 2).trans rfl, (blk_cell BK101.out 3).trans rfl, hx111_0, hx111_1⟩ (fun hHeld => ?_); refine with_tabW lambrequinlaw22_InterpReaches.tab12 lambrequinlaw22_InterpReaches.bits12 (fun HT_ HW_ => ?_)
       generalize w38.drew = w39 at HO_4 HL107_1 HL108_1 BK101 BK110 HB HL111_1 HR111_1 hx111_0 hx111_1 hHeld ⊢
       refine pure_ (i := 0) (N := some 46) (v := ?_) (a' := ?_) (bl 37 1) rfl rfl (any_of HT_.out (by kernel_rfl)) (fun _ _ _ h => h) (Or.inl ⟨by rfl, ?_⟩) ?_ ?_
       rotate_left
       ·intro w'
        go_simp
        with_reducible rfl
       rotate_left
       ·simp only [Act.put, sA, sZ, sS, i64_w, i32_w]
        rfl
       refine take_ (i := 1) (N := some 47) (v := ?_) (a' := ?_) (bl 37 3) rfl rfl (take_ofW HT_.out HW_.out (by kernel_rfl)) (fun _ _ _ h => h) (Or.inl ⟨by rfl, ?_⟩) hHeld ?_ ?_
       rotate_left
       ·rintro w' ⟨s0, s1, s2, s3, s4, s5, s6, s7, s8, s9⟩
        go_simp
        with_reducible rfl
       rotate_left
       ·simp only [Act.put, sA, sZ, sS, i64_w, i32_w]
        rfl
       refine pure_ (i := 2) (N := some 48) (v := ?_) (a' := ?_) (bl 37 7) rfl rfl (any_of HT_.out (by kernel_rfl)) (fun _ _ _ h => h) (Or.inl ⟨by rfl, ?_⟩) ?_ ?_
       rotate_left
       ·intro w'
        go_simp
        with_reducible rfl
       rotate_left
       ·simp only [Act.put, sA, sZ, sS, i64_w, i32_w]
        rfl
       refine pure_ (i := 3) (N := some 49) (v := ?_) (a' := ?_) (bl 37 15) rfl rfl (any_of HT_.out (by kernel_rfl)) (fun _ _ _ h => h) (Or.inl ⟨by rfl, ?_⟩) ?_ ?_
       rotate_left
       ·intro w'
        go_simp
        with_reducible rfl
       rotate_left
       ·simp only [Act.put, sA, sZ, sS, i64_w, i32_w]
        rfl
       refine pure_ (i := 4) (N := some 50) (v := ?_) (a' := ?_) (bl 37 31) rfl rfl (any_of HT_.out (by kernel_rfl)) (fun _ _ _ h => h) (Or.inl ⟨by rfl, ?_⟩) ?_ ?_
       rotate_left
       ·intro w'
        go_simp
        with_reducible rfl
       rotate_left
       ·simp only [Act.put, sA, sZ, sS, i64_w, i32_w]
        rfl
       refine pure_ (i := 6) (N := some 52) (v := ?_) (a' := ?_) (bl 37 95) rfl rfl (any_of HT_.out (by kernel_rfl)) (fun _ _ _ h => h) (Or.inl ⟨by rfl, ?_⟩) ?_ ?_
       rotate_left
       ·intro w'
        go_simp
        with_reducible rfl
       rotate_left
       ·simp only [Act.put, sA, sZ, sS, i64_w, i32_w]
        rfl
       refine pure_ (i := 7) (N := some 53) (v := ?_) (a' := ?_) (bl 37 223) rfl rfl (any_of HT_.out (by kernel_rfl)) (fun _ _ _ h => h) (Or.inl ⟨by rfl, ?_⟩) ?_ ?_
       rotate_left
       ·intro w'
        go_simp
        with_reducible rfl
       rotate_left
       ·simp only [Act.put, sA, sZ, sS, i64_w, i32_w]
        rfl
       refine pure_ (i := 8) (N := some 54) (v := ?_) (a' := ?_) (bl 37 479) rfl rfl (any_of HT_.out (by kernel_rfl)) (fun _ _ _ h => h) (Or.inl ⟨by rfl, ?_⟩) ?_ ?_
       rotate_left
       ·intro w'
        go_simp
        with_reducible rfl
       rotate_left
       ·simp only [Act.put, sA, sZ, sS, i64_w, i32_w]
        rfl
       refine pure_ (i := 9) (N := some 55) (v := ?_) (a' := ?_) (bl 37 991) rfl rfl (any_of HT_.out (by kernel_rfl)) (fun _ _ _ h => h) (Or.inl ⟨by rfl, ?_⟩) ?_ ?_
       rotate_left
       ·intro w'
        go_simp
        with_reducible rfl
       rotate_left
       ·simp only [Act.put, sA, sZ, sS, i64_w, i32_w]
        rfl
       refine pure_ (i := 11) (N := some 57) (v := ?_) (a' := ?_) (bl 37 3039) rfl rfl (any_of HT_.out (by kernel_rfl)) (fun _ _ _ h => h) (Or.inl ⟨by rfl, ?_⟩) ?_ ?_
       rotate_left
       ·intro w'
        go_simp
        with_reducible rfl
       rotate_left
       ·simp only [Act.put, sA, sZ, sS, i64_w, i32_w]
        rfl
       refine pure_ (i := 13) (N := some 59) (v := ?_) (a' := ?_) (bl 37 11231) rfl rfl (any_of HT_.out (by kernel_rfl)) (fun _ _ _ h => h) (Or.inl ⟨by rfl, ?_⟩) ?_ ?_
       rotate_left
       ·intro w'
        go_simp
        with_reducible rfl
       rotate_left
       ·simp only [Act.put, sA, sZ, sS, i64_w, i32_w]
        rfl
       refine take_ (i := 5) (N := some 51) (v := ?_) (a' := ?_) (bl 37 11263) rfl rfl (take_ofW HT_.out HW_.out (by kernel_rfl)) (fun _ _ _ h => h) (Or.inl ⟨by rfl, ?_⟩) hHeld ?_ ?_
       rotate_left
       ·rintro w' ⟨s0, s1, s2, s3, s4, s5, s6, s7, s8, s9⟩
        go_simp
        with_reducible rfl
       rotate_left
       ·simp only [Act.put, sA, sZ, sS, i64_w, i32_w]
        rfl
       refine take_ (i := 10) (N := some 56) (v := ?_) (a' := ?_) (bl 37 12287) rfl rfl (take_ofW HT_.out HW_.out (by kernel_rfl)) (fun _ _ _ h => h) (Or.inl ⟨by rfl, ?_⟩) hHeld ?_ ?_
       rotate_left
       ·rintro w' ⟨s0, s1, s2, s3, s4, s5, s6, s7, s8, s9⟩
        go_simp
        with_reducible rfl
       rotate_left
       ·simp only [Act.put, sA, sZ, sS, i64_w, i32_w]
        rfl
       refine take_ (i := 12) (N := some 58) (v := ?_) (a' := ?_) (bl 37 16383) rfl rfl (take_ofW HT_.out HW_.out (by kernel_rfl)) (fun _ _ _ h => h) (Or.inl ⟨by rfl, ?_⟩) hHeld ?_ ?_
       rotate_left
       ·rintro w' ⟨s0, s1, s2, s3, s4, s5, s6, s7, s8, s9⟩
        go_simp
        with_reducible rfl
       rotate_left
       ·simp only [Act.put, sA, sZ, sS, i64_w, i32_w]
        rfl
       refine take_ (i := 14) (N := some 60) (v := ?_) (a' := ?_) (bl 37 32767) rfl rfl (take_ofW HT_.out HW_.out (by kernel_rfl)) (fun _ _ _ h => h) (Or.inl ⟨by rfl, ?_⟩) hHeld ?_ ?_
       rotate_left
       ·rintro w' ⟨s0, s1, s2, s3, s4, s5, s6, s7, s8, s9⟩
        go_simp
        with_reducible rfl
       rotate_left
       ·simp only [Act.put, sA, sZ, sS, i64_w, i32_w]
        rfl
       refine one_ (i := 15) (N := some 61) (bl 37 65535) rfl rfl (one_of HT_.out (by kernel_rfl)) (by decide) (fun K hK => ?_)
       refine goes_ Try.func23 (by kernel_rfl) rfl #[.slice A0_0 l0_0.length c0_0, .int .i64 ((rd_T52 t104 x5_1).place), .string ((rd_T54 ((rd_T52 t104 x5_1).vars) x6_2).name), .int .i64 ((rd_T54 ((rd_T52 t104 x5_1).vars) x6_2).last)] (by rfl) rfl rfl (by (try simp only [List.map_toArray, List.map_cons, List.map_nil]); first | done | rfl | (simp only [List.length_drop, List.length_take]; rfl)) ?_
       with_reducible refine (cfg_Reaches.calls k2 _ _ l0_0 ((rd_T52 t104 x5_1).place) ((rd_T54 ((rd_T52 t104 x5_1).vars) x6_2).name) ((rd_T54 ((rd_T52 t104 x5_1).vars) x6_2).last) true _ ?side1 ?side2 A23.out).mono ?_
       (case side1 => repeat (first | exact (Kd.C_below HR0_0.out HB.out) | (with_reducible refine Kd.C_alloc ?_ _) | (with_reducible refine Kd.C_drewN ?_ _) | (with_reducible refine Kd.C_drew ?_)))
       (case side2 => exact HC0_0.out)
       rintro e w40 ⟨rfl, hb⟩
       have HS8_ := (hb.cell (blt_ (hHeld.2.2.2.2.2.2.2.2.1))).trans (hHeld.2.2.2.2.2.2.2.2.1)
       have HS9_ := (hb.cell (blt_ (hHeld.2.2.2.2.2.2.2.2.2))).trans (hHeld.2.2.2.2.2.2.2.2.2)
       refine ⟨_, rfl, ?_⟩
       replace HO_4 := am (Kd.S_below (by (with_reducible repeat (first | apply Kd.S_alloc | apply Kd.S_drewN | apply Kd.S_drew)); exact HO_4.out) hb)
       replace HL107_1 := am (Kd.R_below (by (with_reducible repeat (first | apply Ra | apply Rn | apply Rd)); exact HL107_1.out) hb)
       replace HL108_1 := am (Kd.R_below (by (with_reducible repeat (first | apply Ra | apply Rn | apply Rd)); exact HL108_1.out) hb)
       replace HL111_1 := am (Kd.R_below (by (with_reducible repeat (first | apply Ra | apply Rn | apply Rd)); exact HL111_1.out) hb)
       replace BK101 := am (blk_below (g := gb101) (o := .cells #[.slice A0_0 l0_0.length c0_0, .slice A0_1 l0_1.length c0_1, .slice A0_2 l0_2.length c0_2, .int .i64 a0_3] 43 (0, 0)) (by (with_reducible repeat (first | refine bN ?_ _ | refine bD ?_ | refine bA ?_ _)); exact BK101.out) hb)
       replace BK110 := am (blk_below (g := gb110) (o := .cells #[.string ((rd_T54 ((rd_T52 t104 x5_1).vars) x6_2).name), .int .i64 ((rd_T54 ((rd_T52 t104 x5_1).vars) x6_2).n), .int .i64 ((rd_T54 ((rd_T52 t104 x5_1).vars) x6_2).last), .bool ((rd_T54 ((rd_T52 t104 x5_1).vars) x6_2).taint)] 54 (0, 0)) (by (with_reducible repeat (first | refine bN ?_ _ | refine bD ?_ | refine bA ?_ _)); exact BK110.out) hb)
       replace HR111_1 := am (Kd.C_below (by first | (with_reducible exact HR111_1.out) | (with_reducible exact Kd.C_drewN HR111_1.out _) | (repeat (first | (with_reducible exact HR111_1.out) | (with_reducible refine Kd.C_alloc ?_ _) | (with_reducible refine Kd.C_drewN ?_ _) | (with_reducible refine Kd.C_drew ?_) | exact HR111_1.out))) hb)
       replace HB := am (below_step (by repeat (first | (with_reducible first | exact HB.out | apply lA | apply lN | apply lD | refine lS ?_ GE101.out | refine lS ?_ GE110.out) | exact HB.out)) hb)
       (try clear hb)
       (try clear hb2)
       (try clear hk)
       (try clear hi)
       refine hK.out _ _ ⟨(blk_cell BK110.out 0).trans rfl, (blk_cell BK110.out 1).trans rfl, (blk_cell BK110.out 2).trans rfl, (blk_cell BK110.out 3).trans rfl, (blk_cell BK101.out 0).trans rfl, (blk_cell BK101.out 1).trans rfl, (blk_cell BK101.out 2).trans rfl, (blk_cell BK101.out 3).trans rfl, HS8_, HS9_⟩ (fun hHeld => ?_)
       clear hK K
       refine norm_ (a' := ?_) ?_ ?_
       rotate_left
       ·show Act.put _ (some 61) _ = _
        simp only [Act.put, sA, sZ, sS, i64_w, i32_w]
        rfl
       refine pure_ (i := 16) (N := some 62) (v := ?_) (a' := ?_) (bl 37 131071) rfl rfl (any_of HT_.out (by kernel_rfl)) (fun _ _ _ h => h) (Or.inl ⟨by rfl, ?_⟩) ?_ ?_
       rotate_left
       ·intro w'
        go_simp
        with_reducible rfl
       rotate_left
       ·simp only [Act.put, sA, sZ, sS, i64_w, i32_w]
        rfl
       refine pure_ (i := 17) (N := some 63) (v := ?_) (a' := ?_) (bl 37 262143) rfl rfl (any_of HT_.out (by kernel_rfl)) (fun _ _ _ h => h) (Or.inl ⟨by rfl, ?_⟩) ?_ ?_
       rotate_left
       ·intro w'
        go_simp
        with_reducible rfl
       rotate_left
       ·simp only [Act.put, sA, sZ, sS, i64_w, i32_w]
        rfl
       refine pure_ (i := 18) (N := some 64) (v := ?_) (a' := ?_) (bl 37 524287) rfl rfl (any_of HT_.out (by kernel_rfl)) (fun _ _ _ h => h) (Or.inl ⟨by rfl, ?_⟩) ?_ ?_
       rotate_left
       ·intro w'
        go_simp
        with_reducible rfl
       rotate_left
       ·simp only [Act.put, sA, sZ, sS, i64_w, i32_w]
        rfl
       refine pure_ (i := 19) (N := some 65) (v := ?_) (a' := ?_) (bl 37 1048575) rfl rfl (any_of HT_.out (by kernel_rfl)) (fun _ _ _ h => h) (Or.inl ⟨by rfl, ?_⟩) ?_ ?_
       rotate_left
       ·intro w'
        go_simp
        with_reducible rfl
       rotate_left
       ·simp only [Act.put, sA, sZ, sS, i64_w, i32_w]
        rfl
       refine take_ (i := 20) (N := some 66) (v := ?_) (a' := ?_) (bl 37 2097151) rfl rfl (take_ofW HT_.out HW_.out (by kernel_rfl)) (fun _ _ _ h => h) (Or.inl ⟨by rfl, ?_⟩) hHeld ?_ ?_
       rotate_left
       ·rintro w' ⟨s0, s1, s2, s3, s4, s5, s6, s7, s8, s9⟩
        go_simp
        with_reducible rfl
       rotate_left
       ·simp only [Act.put, sA, sZ, sS, i64_w, i32_w]
        rfl
       refine pure_ (i := 21) (N := some 67) (v := ?_) (a' := ?_) (bl 37 4194303) rfl rfl (any_of HT_.out (by kernel_rfl)) (fun _ _ _ h => h) (Or.inl ⟨by rfl, ?_⟩) ?_ ?_
       rotate_left
       ·intro w'
        go_simp
        with_reducible rfl
       rotate_left
       ·simp only [Act.put, sA, sZ, sS, i64_w, i32_w]
        rfl
       refine pure_ (i := 22) (N := some 68) (v := ?_) (a' := ?_) (bl 37 8388607) rfl rfl (any_of HT_.out (by kernel_rfl)) (fun _ _ _ h => h) (Or.inl ⟨by rfl, ?_⟩) ?_ ?_
       rotate_left
       ·intro w'
        go_simp
        with_reducible rfl
       rotate_left
       ·simp only [Act.put, sA, sZ, sS, i64_w, i32_w]
        rfl
       refine pure_ (i := 23) (N := some 69) (v := undef) (a' := ?_) (bl 37 16777215) rfl rfl (any_of HT_.out (by kernel_rfl)) (fun _ _ _ h => h) (Or.inr ⟨by rfl, rfl⟩) ?_ ?_
       rotate_left
       ·simp only [Act.put, sA, sZ, sS, i64_w, i32_w]
        rfl
       refine pure_ (i := 24) (N := some 70) (v := undef) (a' := ?_) (bl 37 33554431) rfl rfl (any_of HT_.out (by kernel_rfl)) (fun _ _ _ h => h) (Or.inr ⟨by rfl, rfl⟩) ?_ ?_
       rotate_left
       ·simp only [Act.put, sA, sZ, sS, i64_w, i32_w]
        rfl
       refine pure_ (i := 25) (N := some 71) (v := undef) (a' := ?_) (bl 37 67108863) rfl rfl (any_of HT_.out (by kernel_rfl)) (fun _ _ _ h => h) (Or.inr ⟨by rfl, rfl⟩) ?_ ?_
       rotate_left
       ·simp only [Act.put, sA, sZ, sS, i64_w, i32_w]
        rfl
       refine pure_ (i := 26) (N := some 72) (v := undef) (a' := ?_) (bl 37 134217727) rfl rfl (any_of HT_.out (by kernel_rfl)) (fun _ _ _ h => h) (Or.inr ⟨by rfl, rfl⟩) ?_ ?_
       rotate_left
       ·simp only [Act.put, sA, sZ, sS, i64_w, i32_w]
        rfl
       refine pure_ (i := 27) (N := some 73) (v := undef) (a' := ?_) (bl 37 268435455) rfl rfl (any_of HT_.out (by kernel_rfl)) (fun _ _ _ h => h) (Or.inr ⟨by rfl, rfl⟩) ?_ ?_
       rotate_left
       ·simp only [Act.put, sA, sZ, sS, i64_w, i32_w]
        rfl
       refine pure_ (i := 28) (N := some 74) (v := undef) (a' := ?_) (bl 37 536870911) rfl rfl (any_of HT_.out (by kernel_rfl)) (fun _ _ _ h => h) (Or.inr ⟨by rfl, rfl⟩) ?_ ?_
       rotate_left
       ·simp only [Act.put, sA, sZ, sS, i64_w, i32_w]
        rfl
       refine pure_ (i := 29) (N := some 75) (v := undef) (a' := ?_) (bl 37 1073741823) rfl rfl (any_of HT_.out (by kernel_rfl)) (fun _ _ _ h => h) (Or.inr ⟨by rfl, rfl⟩) ?_ ?_
       rotate_left
       ·simp only [Act.put, sA, sZ, sS, i64_w, i32_w]
        rfl
       refine pure_ (i := 30) (N := some 76) (v := undef) (a' := ?_) (bl 37 2147483647) rfl rfl (any_of HT_.out (by kernel_rfl)) (fun _ _ _ h => h) (Or.inr ⟨by rfl, rfl⟩) ?_ ?_
       rotate_left
       ·simp only [Act.put, sA, sZ, sS, i64_w, i32_w]
        rfl
       refine pure_ (i := 31) (N := some 77) (v := undef) (a' := ?_) (bl 37 4294967295) rfl rfl (any_of HT_.out (by kernel_rfl)) (fun _ _ _ h => h) (Or.inr ⟨by rfl, rfl⟩) ?_ ?_
       rotate_left
       ·simp only [Act.put, sA, sZ, sS, i64_w, i32_w]
        rfl
       refine pure_ (i := 32) (N := some 78) (v := undef) (a' := ?_) (bl 37 8589934591) rfl rfl (any_of HT_.out (by kernel_rfl)) (fun _ _ _ h => h) (Or.inr ⟨by rfl, rfl⟩) ?_ ?_
       rotate_left
       ·simp only [Act.put, sA, sZ, sS, i64_w, i32_w]
        rfl
       refine pure_ (i := 33) (N := some 79) (v := undef) (a' := ?_) (bl 37 17179869183) rfl rfl (any_of HT_.out (by kernel_rfl)) (fun _ _ _ h => h) (Or.inr ⟨by rfl, rfl⟩) ?_ ?_
       rotate_left
       ·simp only [Act.put, sA, sZ, sS, i64_w, i32_w]
        rfl
       refine pure_ (i := 34) (N := some 80) (v := undef) (a' := ?_) (bl 37 34359738367) rfl rfl (any_of HT_.out (by kernel_rfl)) (fun _ _ _ h => h) (Or.inr ⟨by rfl, rfl⟩) ?_ ?_
       rotate_left
       ·simp only [Act.put, sA, sZ, sS, i64_w, i32_w]
        rfl
       refine pure_ (i := 35) (N := some 81) (v := ?_) (a' := ?_) (bl 37 68719476735) rfl rfl (any_of HT_.out (by kernel_rfl)) (fun _ _ _ h => h) (Or.inl ⟨by rfl, ?_⟩) ?_ ?_
       rotate_left
       ·intro w'
        go_simp
        with_reducible rfl
       rotate_left
       ·simp only [Act.put, sA, sZ, sS, i64_w, i32_w]
        rfl
       refine pure_ (i := 36) (N := some 82) (v := ?_) (a' := ?_) (bl 37 137438953471) rfl rfl (any_of HT_.out (by kernel_rfl)) (fun _ _ _ h => h) (Or.inl ⟨by rfl, ?_⟩) ?_ ?_
       rotate_left
       ·intro w'
        go_simp
        with_reducible rfl
       rotate_left
       ·simp only [Act.put, sA, sZ, sS, i64_w, i32_w]
        rfl
       refine done_ (done_of HT_.out (by kernel_rfl)) ?_
       try go_wp2
       go_meet
       case rel => exact ⟨_, (false), (by first | rfl | (simp; done) | (simp [*]; done)), H', ⟨by have := HK1.out; have := HK2.out; first | omega | exact Nat.le_refl _⟩, ⟨by (with_reducible repeat (first | apply Kd.S_alloc | apply Kd.S_drewN | apply Kd.S_drew)); exact HO_4.out⟩, ⟨by (with_reducible repeat (first | refine bN ?_ _ | refine bD ?_ | refine bA ?_ _)); first | exact BK101.out | (rw [← Nbq27.out]; exact BK101.out) | (rw [← Nbq46.out]; exact BK101.out)⟩, ⟨by (with_reducible repeat (first | refine bN ?_ _ | refine bD ?_ | refine bA ?_ _)); first | exact BK110.out | (rw [← Nbq27.out]; exact BK110.out) | (rw [← Nbq46.out]; exact BK110.out)⟩, ⟨by repeat (first | (with_reducible first | exact HB.out | apply lA | apply lN | apply lD | refine lS ?_ GE101.out | refine lS ?_ GE110.out) | exact HB.out)⟩⟩
      rw [if_pos c25] at H
      have c25b0 : decide (((rd_T54 ((rd_T52 t104 x5_1).vars) x6_2).last) < 0) = true := decide_eq_true c25
      clear c25
      as_aux_lemma =>
      by_cases c26 : ((rd_T54 ((rd_T52 t104 x5_1).vars) x6_2).n) = 0
      rotate_left
      ·rw [if_neg c26] at H
       have c26b0 : (((rd_T54 ((rd_T52 t104 x5_1).vars) x6_2).n) == 0) = false := beq_eq_false_iff_ne.mpr c26
       have c26b1 : (((rd_T54 ((rd_T52 t104 x5_1).vars) x6_2).n) != 0) = true := bne_iff_ne.mpr c26
       have H' := am H
       clear H
       try go_wp2
       have n0_ : Aside0 (Kd.S k52 52 ((((w19.setCell ⟨gb110, 0, none⟩ (.string ((rd_T54 ((rd_T52 t104 x5_1).vars) x6_2).name))).setCell ⟨gb110, 1, none⟩ (.int .i64 ((rd_T54 ((rd_T52 t104 x5_1).vars) x6_2).n))).setCell ⟨gb110, 2, none⟩ (.int .i64 ((rd_T54 ((rd_T52 t104 x5_1).vars) x6_2).last))).setCell ⟨gb110, 3, none⟩ (.bool ((rd_T54 ((rd_T52 t104 x5_1).vars) x6_2).taint))) w.heap.size (fun k_ => k_ ≠ gb110) (.slice (some ad107) t104.length co13) t104) := ⟨by (with_reducible repeat (first | apply Kd.S_alloc | apply Kd.S_drewN | apply Kd.S_drew)); exact Kd.S_mono (Kd.S_far (p := ⟨gb110, 3, none⟩) (Kd.S_far (p := ⟨gb110, 2, none⟩) (Kd.S_far (p := ⟨gb110, 1, none⟩) (Kd.S_far (p := ⟨gb110, 0, none⟩) (Kd.S_mono HO_4.out (fun k_ hk => (⟨hk, hk.2⟩ : _ ∧ k_ ≠ gb110))) (fun _ hk => hk.2) _) (fun _ hk => hk.2) _) (fun _ hk => hk.2) _) (fun _ hk => hk.2) _) (fun _ hk => hk.1.2)⟩
       have n1_ : Aside0 (Kd.R k54 54 ((((w19.setCell ⟨gb110, 0, none⟩ (.string ((rd_T54 ((rd_T52 t104 x5_1).vars) x6_2).name))).setCell ⟨gb110, 1, none⟩ (.int .i64 ((rd_T54 ((rd_T52 t104 x5_1).vars) x6_2).n))).setCell ⟨gb110, 2, none⟩ (.int .i64 ((rd_T54 ((rd_T52 t104 x5_1).vars) x6_2).last))).setCell ⟨gb110, 3, none⟩ (.bool ((rd_T54 ((rd_T52 t104 x5_1).vars) x6_2).taint))) w.heap.size (fun k_ => some k_ ≠ (.slice (some ad107) t104.length co13 : Value).ownBlock ∧ k_ ≠ gb110) (.slice (some ad109) ((rd_T52 t104 x5_1).vars).length c107_1) ((rd_T52 t104 x5_1).vars)) := ⟨by (with_reducible repeat (first | apply Ra | apply Rn | apply Rd)); exact Kd.R_mono (Kd.R_far (p := ⟨gb110, 3, none⟩) (Kd.R_far (p := ⟨gb110, 2, none⟩) (Kd.R_far (p := ⟨gb110, 1, none⟩) (Kd.R_far (p := ⟨gb110, 0, none⟩) (Kd.R_mono HL107_1.out (fun k_ hk => (⟨hk, hk.2⟩ : _ ∧ k_ ≠ gb110))) (fun _ hk => hk.2) _) (fun _ hk => hk.2) _) (fun _ hk => hk.2) _) (fun _ hk => hk.2) _) (fun _ hk => ⟨hk.1.1.2, hk.1.2⟩)⟩
       have n2_ : Aside0 (Kd.R k54 54 ((((w19.setCell ⟨gb110, 0, none⟩ (.string ((rd_T54 ((rd_T52 t104 x5_1).vars) x6_2).name))).setCell ⟨gb110, 1, none⟩ (.int .i64 ((rd_T54 ((rd_T52 t104 x5_1).vars) x6_2).n))).setCell ⟨gb110, 2, none⟩ (.int .i64 ((rd_T54 ((rd_T52 t104 x5_1).vars) x6_2).last))).setCell ⟨gb110, 3, none⟩ (.bool ((rd_T54 ((rd_T52 t104 x5_1).vars) x6_2).taint))) w.heap.size (fun k_ => some k_ ≠ (.slice (some ad107) t104.length co13 : Value).ownBlock ∧ k_ ≠ gb110) (.slice (some ad109) ((rd_T52 t104 x5_1).vars).length c107_1) ((rd_T52 t104 x5_1).vars)) := ⟨by (with_reducible repeat (first | apply Ra | apply Rn | apply Rd)); exact Kd.R_mono (Kd.R_far (p := ⟨gb110, 3, none⟩) (Kd.R_far (p := ⟨gb110, 2, none⟩) (Kd.R_far (p := ⟨gb110, 1, none⟩) (Kd.R_far (p := ⟨gb110, 0, none⟩) (Kd.R_mono HL108_1.out (fun k_ hk => (⟨hk, hk.2⟩ : _ ∧ k_ ≠ gb110))) (fun _ hk => hk.2) _) (fun _ hk => hk.2) _) (fun _ hk => hk.2) _) (fun _ hk => hk.2) _) (fun _ hk => ⟨hk.1.1.2, hk.1.2⟩)⟩
       have n3_ : Aside0 (((((w19.setCell ⟨gb110, 0, none⟩ (.string ((rd_T54 ((rd_T52 t104 x5_1).vars) x6_2).name))).setCell ⟨gb110, 1, none⟩ (.int .i64 ((rd_T54 ((rd_T52 t104 x5_1).vars) x6_2).n))).setCell ⟨gb110, 2, none⟩ (.int .i64 ((rd_T54 ((rd_T52 t104 x5_1).vars) x6_2).last))).setCell ⟨gb110, 3, none⟩ (.bool ((rd_T54 ((rd_T52 t104 x5_1).vars) x6_2).taint))).heap[gb101]? = some (.cells #[.slice A0_0 l0_0.length c0_0, .slice A0_1 l0_1.length c0_1, .slice A0_2 l0_2.length c0_2, .int .i64 a0_3] 43 (0, 0))) := ⟨by repeat (first | (with_reducible first | exact BK101.out | refine bN ?_ _ | refine bD ?_ | refine bA ?_ _) | refine blk_far ?_ NB101_110.out _ | exact BK101.out)⟩
       have n4_ : Aside0 (((((w19.setCell ⟨gb110, 0, none⟩ (.string ((rd_T54 ((rd_T52 t104 x5_1).vars) x6_2).name))).setCell ⟨gb110, 1, none⟩ (.int .i64 ((rd_T54 ((rd_T52 t104 x5_1).vars) x6_2).n))).setCell ⟨gb110, 2, none⟩ (.int .i64 ((rd_T54 ((rd_T52 t104 x5_1).vars) x6_2).last))).setCell ⟨gb110, 3, none⟩ (.bool ((rd_T54 ((rd_T52 t104 x5_1).vars) x6_2).taint))).heap[gb110]? = some (.cells #[.string ((rd_T54 ((rd_T52 t104 x5_1).vars) x6_2).name), .int .i64 ((rd_T54 ((rd_T52 t104 x5_1).vars) x6_2).n), .int .i64 ((rd_T54 ((rd_T52 t104 x5_1).vars) x6_2).last), .bool ((rd_T54 ((rd_T52 t104 x5_1).vars) x6_2).taint)] 54 (0, 0))) := ⟨by (with_reducible repeat (first | refine bN ?_ _ | refine bD ?_ | refine bA ?_ _)); refine blk_put (cs := #[.string ((rd_T54 ((rd_T52 t104 x5_1).vars) x6_2).name), .int .i64 ((rd_T54 ((rd_T52 t104 x5_1).vars) x6_2).n), .int .i64 ((rd_T54 ((rd_T52 t104 x5_1).vars) x6_2).last), .bool false]) ?_ 3 _ rfl; (with_reducible repeat (first | refine bN ?_ _ | refine bD ?_ | refine bA ?_ _)); refine blk_put (cs := #[.string ((rd_T54 ((rd_T52 t104 x5_1).vars) x6_2).name), .int .i64 ((rd_T54 ((rd_T52 t104 x5_1).vars) x6_2).n), .int .i64 0, .bool false]) ?_ 2 _ rfl; (with_reducible repeat (first | refine bN ?_ _ | refine bD ?_ | refine bA ?_ _)); refine blk_put (cs := #[.string ((rd_T54 ((rd_T52 t104 x5_1).vars) x6_2).name), .int .i64 0, .int .i64 0, .bool false]) ?_ 1 _ rfl; (with_reducible repeat (first | refine bN ?_ _ | refine bD ?_ | refine bA ?_ _)); refine blk_put (cs := #[.string (⟨#[]⟩ : ByteArray), .int .i64 0, .int .i64 0, .bool false]) ?_ 0 _ rfl; (with_reducible repeat (first | refine bN ?_ _ | refine bD ?_ | refine bA ?_ _)); exact BK110.out⟩
       have n5_ : Aside0 (Below w.heap.size w ((((w19.setCell ⟨gb110, 0, none⟩ (.string ((rd_T54 ((rd_T52 t104 x5_1).vars) x6_2).name))).setCell ⟨gb110, 1, none⟩ (.int .i64 ((rd_T54 ((rd_T52 t104 x5_1).vars) x6_2).n))).setCell ⟨gb110, 2, none⟩ (.int .i64 ((rd_T54 ((rd_T52 t104 x5_1).vars) x6_2).last))).setCell ⟨gb110, 3, none⟩ (.bool ((rd_T54 ((rd_T52 t104 x5_1).vars) x6_2).taint)))) := ⟨by repeat (first | (with_reducible first | exact HB.out | apply lA | apply lN | apply lD | refine lS ?_ GE101.out | refine lS ?_ GE110.out) | exact HB.out)⟩
       (try clear HO_4)
       (try clear HL107_1)
       (try clear HL108_1)
       (try clear BK101)
       (try clear BK110)
       (try clear HB)
       generalize ((((w19.setCell ⟨gb110, 0, none⟩ (.string ((rd_T54 ((rd_T52 t104 x5_1).vars) x6_2).name))).setCell ⟨gb110, 1, none⟩ (.int .i64 ((rd_T54 ((rd_T52 t104 x5_1).vars) x6_2).n))).setCell ⟨gb110, 2, none⟩ (.int .i64 ((rd_T54 ((rd_T52 t104 x5_1).vars) x6_2).last))).setCell ⟨gb110, 3, none⟩ (.bool ((rd_T54 ((rd_T52 t104 x5_1).vars) x6_2).taint))) = w35 at n0_ n1_ n2_ n3_ n4_ n5_ ⊢
       have HO_4 := n0_
       have HL107_1 := n1_
       have HL108_1 := n2_
       have BK101 := n3_
       have BK110 := n4_
       have HB := n5_
       clear n0_ n1_ n2_ n3_ n4_ n5_
       replace HO_4 := am (Kd.S_drew HO_4.out)
       replace HL107_1 := am (Kd.R_drew HL107_1.out)
       replace HL108_1 := am (Kd.R_drew HL108_1.out)
       replace BK101 := am (blk_drew BK101.out)
       replace BK110 := am (blk_drew BK110.out)
       replace HB := am (below_drew1 HB.out)
       have p111 : 0 ≤ (x5_1 : Int) := of_decide_eq_true (by first | (with_reducible assumption) | assumption)
       have q111 : x5_1 < (t104.length : Int) := of_decide_eq_true (by first | (with_reducible assumption) | assumption)
       obtain ⟨ad111, A111_1, c111_1, e111, hx111_0, hx111_1, hl111_1, hi111_1⟩ := at_T52 (Kd.S_reads' HO_4.out).2.2 x5_1 p111 q111
       obtain rfl : ad107 = ad111 := (by injection e111)
       obtain ⟨ce111, hce111, hMe111, hcc111⟩ := Kd.S_get HO_4.out z52 x5_1 p111 (by first | exact q111 | exact of_decide_eq_true (by first | (with_reducible assumption) | assumption) | (have e_ := (Kd.S_reads' HO_4.out).1; omega))
       obtain ⟨ve111_1, rfl, ge111_1⟩ := k52_openM hMe111
       have hv111_1 := hcc111 1 _ rfl
       rw [add_field _ _ 1 (by omega)] at hv111_1
       replace hv111_1 := Option.some.inj (hv111_1.symm.trans hx111_1)
       rw [hv111_1] at ge111_1
       have HL111_1 := am (show Kd.R k54 54 _ _ _ _ ((rd_T52 t104 x5_1).vars) from ge111_1)
       clear hv111_1 ge111_1
       clear hcc111 hce111
       have HR111_1 := am hi111_1
       have HC111_1 := am hl111_1
       clear hi111_1 hl111_1
       replace p111 := eq_true p111
       replace q111 := eq_true q111
       refine start_ (n := 37) (S := fun w' => w'.cell? ⟨gb110, 0, none⟩ = some (.string ((rd_T54 ((rd_T52 t104 x5_1).vars) x6_2).name)) ∧ w'.cell? ⟨gb110, 1, none⟩ = some (.int .i64 ((rd_T54 ((rd_T52 t104 x5_1).vars) x6_2).n)) ∧ w'.cell? ⟨gb110, 2, none⟩ = some (.int .i64 ((rd_T54 ((rd_T52 t104 x5_1).vars) x6_2).last)) ∧ w'.cell? ⟨gb110, 3, none⟩ = some (.bool ((rd_T54 ((rd_T52 t104 x5_1).vars) x6_2).taint)) ∧ w'.cell? ⟨gb101, 0, none⟩ = some (.slice A0_0 l0_0.length c0_0) ∧ w'.cell? ⟨gb101, 1, none⟩ = some (.slice A0_1 l0_1.length c0_1) ∧ w'.cell? ⟨gb101, 2, none⟩ = some (.slice A0_2 l0_2.length c0_2) ∧ w'.cell? ⟨gb101, 3, none⟩ = some (.int .i64 a0_3) ∧ w'.cell? (ad107.add ((x5_1).toNat * 2)) = some (.int .i64 ((rd_T52 t104 x5_1).place)) ∧ w'.cell? ⟨(ad107.add ((x5_1).toNat * 2)).block, (ad107.add ((x5_1).toNat * 2)).off + 1, none⟩ = some (.slice A111_1 ((rd_T52 t104 x5_1).vars).length c111_1)) (ds := []) (bl 37 0) (by kernel_rfl) rfl rfl ⟨(blk_cell BK110.out 0).trans rfl, (blk_cell BK110.out 1).trans rfl, (blk_cell BK110.out 2).trans rfl, (blk_cell BK110.out 3).trans rfl, (blk_cell BK101.out 0).trans rfl, (blk_cell BK101.out 1).trans rfl, (blk_cell BK101.out 2).trans rfl, (blk_cell BK101.out 3).trans rfl, hx111_0, hx111_1⟩ (fun hHeld => ?_); refine with_tabW lambrequinlaw22_InterpReaches.tab12 lambrequinlaw22_InterpReaches.bits12 (fun HT_ HW_ => ?_)
       generalize w35.drew = w36 at HO_4 HL107_1 HL108_1 BK101 BK110 HB HL111_1 HR111_1 hx111_0 hx111_1 hHeld ⊢
       refine pure_ (i := 0) (N := some 46) (v := ?_) (a' := ?_) (bl 37 1) rfl rfl (any_of HT_.out (by kernel_rfl)) (fun _ _ _ h => h) (Or.inl ⟨by rfl, ?_⟩) ?_ ?_
       rotate_left
       ·intro w'
        go_simp
        with_reducible rfl
       rotate_left
       ·simp only [Act.put, sA, sZ, sS, i64_w, i32_w]
        rfl
       refine take_ (i := 1) (N := some 47) (v := ?_) (a' := ?_) (bl 37 3) rfl rfl (take_ofW HT_.out HW_.out (by kernel_rfl)) (fun _ _ _ h => h) (Or.inl ⟨by rfl, ?_⟩) hHeld ?_ ?_
       rotate_left
       ·rintro w' ⟨s0, s1, s2, s3, s4, s5, s6, s7, s8, s9⟩
        go_simp
        with_reducible rfl
       rotate_left
       ·simp only [Act.put, sA, sZ, sS, i64_w, i32_w]
        rfl
       refine pure_ (i := 2) (N := some 48) (v := ?_) (a' := ?_) (bl 37 7) rfl rfl (any_of HT_.out (by kernel_rfl)) (fun _ _ _ h => h) (Or.inl ⟨by rfl, ?_⟩) ?_ ?_
       rotate_left
       ·intro w'
        go_simp
        with_reducible rfl
       rotate_left
       ·simp only [Act.put, sA, sZ, sS, i64_w, i32_w]
        rfl
       refine pure_ (i := 3) (N := some 49) (v := ?_) (a' := ?_) (bl 37 15) rfl rfl (any_of HT_.out (by kernel_rfl)) (fun _ _ _ h => h) (Or.inl ⟨by rfl, ?_⟩) ?_ ?_
       rotate_left
       ·intro w'
        go_simp
        with_reducible rfl
       rotate_left
       ·simp only [Act.put, sA, sZ, sS, i64_w, i32_w]
        rfl
       refine pure_ (i := 4) (N := some 50) (v := ?_) (a' := ?_) (bl 37 31) rfl rfl (any_of HT_.out (by kernel_rfl)) (fun _ _ _ h => h) (Or.inl ⟨by rfl, ?_⟩) ?_ ?_
       rotate_left
       ·intro w'
        go_simp
        with_reducible rfl
       rotate_left
       ·simp only [Act.put, sA, sZ, sS, i64_w, i32_w]
        rfl
       refine pure_ (i := 6) (N := some 52) (v := ?_) (a' := ?_) (bl 37 95) rfl rfl (any_of HT_.out (by kernel_rfl)) (fun _ _ _ h => h) (Or.inl ⟨by rfl, ?_⟩) ?_ ?_
       rotate_left
       ·intro w'
        go_simp
        with_reducible rfl
       rotate_left
       ·simp only [Act.put, sA, sZ, sS, i64_w, i32_w]
        rfl
       refine pure_ (i := 7) (N := some 53) (v := ?_) (a' := ?_) (bl 37 223) rfl rfl (any_of HT_.out (by kernel_rfl)) (fun _ _ _ h => h) (Or.inl ⟨by rfl, ?_⟩) ?_ ?_
       rotate_left
       ·intro w'
        go_simp
        with_reducible rfl
       rotate_left
       ·simp only [Act.put, sA, sZ, sS, i64_w, i32_w]
        rfl
       refine pure_ (i := 8) (N := some 54) (v := ?_) (a' := ?_) (bl 37 479) rfl rfl (any_of HT_.out (by kernel_rfl)) (fun _ _ _ h => h) (Or.inl ⟨by rfl, ?_⟩) ?_ ?_
       rotate_left
       ·intro w'
        go_simp
        with_reducible rfl
       rotate_left
       ·simp only [Act.put, sA, sZ, sS, i64_w, i32_w]
        rfl
       refine pure_ (i := 9) (N := some 55) (v := ?_) (a' := ?_) (bl 37 991) rfl rfl (any_of HT_.out (by kernel_rfl)) (fun _ _ _ h => h) (Or.inl ⟨by rfl, ?_⟩) ?_ ?_
       rotate_left
       ·intro w'
        go_simp
        with_reducible rfl
       rotate_left
       ·simp only [Act.put, sA, sZ, sS, i64_w, i32_w]
        rfl
       refine pure_ (i := 11) (N := some 57) (v := ?_) (a' := ?_) (bl 37 3039) rfl rfl (any_of HT_.out (by kernel_rfl)) (fun _ _ _ h => h) (Or.inl ⟨by rfl, ?_⟩) ?_ ?_
       rotate_left
       ·intro w'
        go_simp
        with_reducible rfl
       rotate_left
       ·simp only [Act.put, sA, sZ, sS, i64_w, i32_w]
        rfl
       refine pure_ (i := 13) (N := some 59) (v := ?_) (a' := ?_) (bl 37 11231) rfl rfl (any_of HT_.out (by kernel_rfl)) (fun _ _ _ h => h) (Or.inl ⟨by rfl, ?_⟩) ?_ ?_
       rotate_left
       ·intro w'
        go_simp
        with_reducible rfl
       rotate_left
       ·simp only [Act.put, sA, sZ, sS, i64_w, i32_w]
        rfl
       refine take_ (i := 5) (N := some 51) (v := ?_) (a' := ?_) (bl 37 11263) rfl rfl (take_ofW HT_.out HW_.out (by kernel_rfl)) (fun _ _ _ h => h) (Or.inl ⟨by rfl, ?_⟩) hHeld ?_ ?_
       rotate_left
       ·rintro w' ⟨s0, s1, s2, s3, s4, s5, s6, s7, s8, s9⟩
        go_simp
        with_reducible rfl
       rotate_left
       ·simp only [Act.put, sA, sZ, sS, i64_w, i32_w]
        rfl
       refine take_ (i := 10) (N := some 56) (v := ?_) (a' := ?_) (bl 37 12287) rfl rfl (take_ofW HT_.out HW_.out (by kernel_rfl)) (fun _ _ _ h => h) (Or.inl ⟨by rfl, ?_⟩) hHeld ?_ ?_
       rotate_left
       ·rintro w' ⟨s0, s1, s2, s3, s4, s5, s6, s7, s8, s9⟩
        go_simp
        with_reducible rfl
       rotate_left
       ·simp only [Act.put, sA, sZ, sS, i64_w, i32_w]
        rfl
       refine take_ (i := 12) (N := some 58) (v := ?_) (a' := ?_) (bl 37 16383) rfl rfl (take_ofW HT_.out HW_.out (by kernel_rfl)) (fun _ _ _ h => h) (Or.inl ⟨by rfl, ?_⟩) hHeld ?_ ?_
       rotate_left
       ·rintro w' ⟨s0, s1, s2, s3, s4, s5, s6, s7, s8, s9⟩
        go_simp
        with_reducible rfl
       rotate_left
       ·simp only [Act.put, sA, sZ, sS, i64_w, i32_w]
        rfl
       refine take_ (i := 14) (N := some 60) (v := ?_) (a' := ?_) (bl 37 32767) rfl rfl (take_ofW HT_.out HW_.out (by kernel_rfl)) (fun _ _ _ h => h) (Or.inl ⟨by rfl, ?_⟩) hHeld ?_ ?_
       rotate_left
       ·rintro w' ⟨s0, s1, s2, s3, s4, s5, s6, s7, s8, s9⟩
        go_simp
        with_reducible rfl
       rotate_left
       ·simp only [Act.put, sA, sZ, sS, i64_w, i32_w]
        rfl
       refine one_ (i := 15) (N := some 61) (bl 37 65535) rfl rfl (one_of HT_.out (by kernel_rfl)) (by decide) (fun K hK => ?_)
       refine goes_ Try.func23 (by kernel_rfl) rfl #[.slice A0_0 l0_0.length c0_0, .int .i64 ((rd_T52 t104 x5_1).place), .string ((rd_T54 ((rd_T52 t104 x5_1).vars) x6_2).name), .int .i64 ((rd_T54 ((rd_T52 t104 x5_1).vars) x6_2).last)] (by rfl) rfl rfl (by (try simp only [List.map_toArray, List.map_cons, List.map_nil]); first | done | rfl | (simp only [List.length_drop, List.length_take]; rfl)) ?_
       with_reducible refine (cfg_Reaches.calls k2 _ _ l0_0 ((rd_T52 t104 x5_1).place) ((rd_T54 ((rd_T52 t104 x5_1).vars) x6_2).name) ((rd_T54 ((rd_T52 t104 x5_1).vars) x6_2).last) true _ ?side1 ?side2 A23.out).mono ?_
       (case side1 => repeat (first | exact (Kd.C_below HR0_0.out HB.out) | (with_reducible refine Kd.C_alloc ?_ _) | (with_reducible refine Kd.C_drewN ?_ _) | (with_reducible refine Kd.C_drew ?_)))
       (case side2 => exact HC0_0.out)
       rintro e w37 ⟨rfl, hb⟩
       have HS8_ := (hb.cell (blt_ (hHeld.2.2.2.2.2.2.2.2.1))).trans (hHeld.2.2.2.2.2.2.2.2.1)
       have HS9_ := (hb.cell (blt_ (hHeld.2.2.2.2.2.2.2.2.2))).trans (hHeld.2.2.2.2.2.2.2.2.2)
       refine ⟨_, rfl, ?_⟩
       replace HO_4 := am (Kd.S_below (by (with_reducible repeat (first | apply Kd.S_alloc | apply Kd.S_drewN | apply Kd.S_drew)); exact HO_4.out) hb)
       replace HL107_1 := am (Kd.R_below (by (with_reducible repeat (first | apply Ra | apply Rn | apply Rd)); exact HL107_1.out) hb)
       replace HL108_1 := am (Kd.R_below (by (with_reducible repeat (first | apply Ra | apply Rn | apply Rd)); exact HL108_1.out) hb)
       replace HL111_1 := am (Kd.R_below (by (with_reducible repeat (first | apply Ra | apply Rn | apply Rd)); exact HL111_1.out) hb)
       replace BK101 := am (blk_below (g := gb101) (o := .cells #[.slice A0_0 l0_0.length c0_0, .slice A0_1 l0_1.length c0_1, .slice A0_2 l0_2.length c0_2, .int .i64 a0_3] 43 (0, 0)) (by (with_reducible repeat (first | refine bN ?_ _ | refine bD ?_ | refine bA ?_ _)); exact BK101.out) hb)
       replace BK110 := am (blk_below (g := gb110) (o := .cells #[.string ((rd_T54 ((rd_T52 t104 x5_1).vars) x6_2).name), .int .i64 ((rd_T54 ((rd_T52 t104 x5_1).vars) x6_2).n), .int .i64 ((rd_T54 ((rd_T52 t104 x5_1).vars) x6_2).last), .bool ((rd_T54 ((rd_T52 t104 x5_1).vars) x6_2).taint)] 54 (0, 0)) (by (with_reducible repeat (first | refine bN ?_ _ | refine bD ?_ | refine bA ?_ _)); exact BK110.out) hb)
       replace HR111_1 := am (Kd.C_below (by first | (with_reducible exact HR111_1.out) | (with_reducible exact Kd.C_drewN HR111_1.out _) | (repeat (first | (with_reducible exact HR111_1.out) | (with_reducible refine Kd.C_alloc ?_ _) | (with_reducible refine Kd.C_drewN ?_ _) | (with_reducible refine Kd.C_drew ?_) | exact HR111_1.out))) hb)
       replace HB := am (below_step (by repeat (first | (with_reducible first | exact HB.out | apply lA | apply lN | apply lD | refine lS ?_ GE101.out | refine lS ?_ GE110.out) | exact HB.out)) hb)
       (try clear hb)
       (try clear hb2)
       (try clear hk)
       (try clear hi)
       refine hK.out _ _ ⟨(blk_cell BK110.out 0).trans rfl, (blk_cell BK110.out 1).trans rfl, (blk_cell BK110.out 2).trans rfl, (blk_cell BK110.out 3).trans rfl, (blk_cell BK101.out 0).trans rfl, (blk_cell BK101.out 1).trans rfl, (blk_cell BK101.out 2).trans rfl, (blk_cell BK101.out 3).trans rfl, HS8_, HS9_⟩ (fun hHeld => ?_)
       clear hK K
       refine norm_ (a' := ?_) ?_ ?_
       rotate_left
       ·show Act.put _ (some 61) _ = _
        simp only [Act.put, sA, sZ, sS, i64_w, i32_w]
        rfl
       refine pure_ (i := 16) (N := some 62) (v := ?_) (a' := ?_) (bl 37 131071) rfl rfl (any_of HT_.out (by kernel_rfl)) (fun _ _ _ h => h) (Or.inl ⟨by rfl, ?_⟩) ?_ ?_
       rotate_left
       ·intro w'
        go_simp
        with_reducible rfl
       rotate_left
       ·simp only [Act.put, sA, sZ, sS, i64_w, i32_w]
        rfl
       refine pure_ (i := 17) (N := some 63) (v := ?_) (a' := ?_) (bl 37 262143) rfl rfl (any_of HT_.out (by kernel_rfl)) (fun _ _ _ h => h) (Or.inl ⟨by rfl, ?_⟩) ?_ ?_
       rotate_left
       ·intro w'
        go_simp
        with_reducible rfl
       rotate_left
       ·simp only [Act.put, sA, sZ, sS, i64_w, i32_w]
        rfl
       refine pure_ (i := 18) (N := some 64) (v := ?_) (a' := ?_) (bl 37 524287) rfl rfl (any_of HT_.out (by kernel_rfl)) (fun _ _ _ h => h) (Or.inl ⟨by rfl, ?_⟩) ?_ ?_
       rotate_left
       ·intro w'
        go_simp
        with_reducible rfl
       rotate_left
       ·simp only [Act.put, sA, sZ, sS, i64_w, i32_w]
        rfl
       refine pure_ (i := 19) (N := some 65) (v := ?_) (a' := ?_) (bl 37 1048575) rfl rfl (any_of HT_.out (by kernel_rfl)) (fun _ _ _ h => h) (Or.inl ⟨by rfl, ?_⟩) ?_ ?_
       rotate_left
       ·intro w'
        go_simp
        with_reducible rfl
       rotate_left
       ·simp only [Act.put, sA, sZ, sS, i64_w, i32_w]
        rfl
       refine take_ (i := 20) (N := some 66) (v := ?_) (a' := ?_) (bl 37 2097151) rfl rfl (take_ofW HT_.out HW_.out (by kernel_rfl)) (fun _ _ _ h => h) (Or.inl ⟨by rfl, ?_⟩) hHeld ?_ ?_
       rotate_left
       ·rintro w' ⟨s0, s1, s2, s3, s4, s5, s6, s7, s8, s9⟩
        go_simp
        with_reducible rfl
       rotate_left
       ·simp only [Act.put, sA, sZ, sS, i64_w, i32_w]
        rfl
       refine pure_ (i := 21) (N := some 67) (v := ?_) (a' := ?_) (bl 37 4194303) rfl rfl (any_of HT_.out (by kernel_rfl)) (fun _ _ _ h => h) (Or.inl ⟨by rfl, ?_⟩) ?_ ?_
       rotate_left
       ·intro w'
        go_simp
        with_reducible rfl
       rotate_left
       ·simp only [Act.put, sA, sZ, sS, i64_w, i32_w]
        rfl
       refine pure_ (i := 22) (N := some 68) (v := ?_) (a' := ?_) (bl 37 8388607) rfl rfl (any_of HT_.out (by kernel_rfl)) (fun _ _ _ h => h) (Or.inl ⟨by rfl, ?_⟩) ?_ ?_
       rotate_left
       ·intro w'
        go_simp
        with_reducible rfl
       rotate_left
       ·simp only [Act.put, sA, sZ, sS, i64_w, i32_w]
        rfl
       refine pure_ (i := 23) (N := some 69) (v := ?_) (a' := ?_) (bl 37 16777215) rfl rfl (any_of HT_.out (by kernel_rfl)) (fun _ _ _ h => h) (Or.inl ⟨by rfl, ?_⟩) ?_ ?_
       rotate_left
       ·intro w'
        go_simp
        with_reducible rfl
       rotate_left
       ·simp only [Act.put, sA, sZ, sS, i64_w, i32_w]
        rfl
       refine take_ (i := 24) (N := some 70) (v := ?_) (a' := ?_) (bl 37 33554431) rfl rfl (take_ofW HT_.out HW_.out (by kernel_rfl)) (fun _ _ _ h => h) (Or.inl ⟨by rfl, ?_⟩) hHeld ?_ ?_
       rotate_left
       ·rintro w' ⟨s0, s1, s2, s3, s4, s5, s6, s7, s8, s9⟩
        go_simp
        with_reducible rfl
       rotate_left
       ·simp only [Act.put, sA, sZ, sS, i64_w, i32_w]
        rfl
       refine pure_ (i := 25) (N := some 71) (v := ?_) (a' := ?_) (bl 37 67108863) rfl rfl (any_of HT_.out (by kernel_rfl)) (fun _ _ _ h => h) (Or.inl ⟨by rfl, ?_⟩) ?_ ?_
       rotate_left
       ·intro w'
        go_simp
        with_reducible rfl
       rotate_left
       ·simp only [Act.put, sA, sZ, sS, i64_w, i32_w]
        rfl
       refine pure_ (i := 26) (N := some 72) (v := ?_) (a' := ?_) (bl 37 134217727) rfl rfl (any_of HT_.out (by kernel_rfl)) (fun _ _ _ h => h) (Or.inl ⟨by rfl, ?_⟩) ?_ ?_
       rotate_left
       ·intro w'
        go_simp
        with_reducible rfl
       rotate_left
       ·simp only [Act.put, sA, sZ, sS, i64_w, i32_w]
        rfl
       refine pure_ (i := 27) (N := some 73) (v := undef) (a' := ?_) (bl 37 268435455) rfl rfl (any_of HT_.out (by kernel_rfl)) (fun _ _ _ h => h) (Or.inr ⟨by rfl, rfl⟩) ?_ ?_
       rotate_left
       ·simp only [Act.put, sA, sZ, sS, i64_w, i32_w]
        rfl
       refine pure_ (i := 28) (N := some 74) (v := undef) (a' := ?_) (bl 37 536870911) rfl rfl (any_of HT_.out (by kernel_rfl)) (fun _ _ _ h => h) (Or.inr ⟨by rfl, rfl⟩) ?_ ?_
       rotate_left
       ·simp only [Act.put, sA, sZ, sS, i64_w, i32_w]
        rfl
       refine pure_ (i := 29) (N := some 75) (v := ?_) (a' := ?_) (bl 37 1073741823) rfl rfl (any_of HT_.out (by kernel_rfl)) (fun _ _ _ h => h) (Or.inl ⟨by rfl, ?_⟩) ?_ ?_
       rotate_left
       ·intro w'
        go_simp
        with_reducible rfl
       rotate_left
       ·simp only [Act.put, sA, sZ, sS, i64_w, i32_w]
        rfl
       refine pure_ (i := 30) (N := some 76) (v := ?_) (a' := ?_) (bl 37 2147483647) rfl rfl (any_of HT_.out (by kernel_rfl)) (fun _ _ _ h => h) (Or.inl ⟨by rfl, ?_⟩) ?_ ?_
       rotate_left
       ·intro w'
        go_simp
        with_reducible rfl
       rotate_left
       ·simp only [Act.put, sA, sZ, sS, i64_w, i32_w]
        rfl
       refine pure_ (i := 31) (N := some 77) (v := undef) (a' := ?_) (bl 37 4294967295) rfl rfl (any_of HT_.out (by kernel_rfl)) (fun _ _ _ h => h) (Or.inr ⟨by rfl, rfl⟩) ?_ ?_
       rotate_left
       ·simp only [Act.put, sA, sZ, sS, i64_w, i32_w]
        rfl
       refine pure_ (i := 32) (N := some 78) (v := undef) (a' := ?_) (bl 37 8589934591) rfl rfl (any_of HT_.out (by kernel_rfl)) (fun _ _ _ h => h) (Or.inr ⟨by rfl, rfl⟩) ?_ ?_
       rotate_left
       ·simp only [Act.put, sA, sZ, sS, i64_w, i32_w]
        rfl
       refine pure_ (i := 33) (N := some 79) (v := undef) (a' := ?_) (bl 37 17179869183) rfl rfl (any_of HT_.out (by kernel_rfl)) (fun _ _ _ h => h) (Or.inr ⟨by rfl, rfl⟩) ?_ ?_
       rotate_left
       ·simp only [Act.put, sA, sZ, sS, i64_w, i32_w]
        rfl
       refine pure_ (i := 34) (N := some 80) (v := ?_) (a' := ?_) (bl 37 34359738367) rfl rfl (any_of HT_.out (by kernel_rfl)) (fun _ _ _ h => h) (Or.inl ⟨by rfl, ?_⟩) ?_ ?_
       rotate_left
       ·intro w'
        go_simp
        with_reducible rfl
       rotate_left
       ·simp only [Act.put, sA, sZ, sS, i64_w, i32_w]
        rfl
       refine pure_ (i := 35) (N := some 81) (v := ?_) (a' := ?_) (bl 37 68719476735) rfl rfl (any_of HT_.out (by kernel_rfl)) (fun _ _ _ h => h) (Or.inl ⟨by rfl, ?_⟩) ?_ ?_
       rotate_left
       ·intro w'
        go_simp
        with_reducible rfl
       rotate_left
       ·simp only [Act.put, sA, sZ, sS, i64_w, i32_w]
        rfl
       refine pure_ (i := 36) (N := some 82) (v := ?_) (a' := ?_) (bl 37 137438953471) rfl rfl (any_of HT_.out (by kernel_rfl)) (fun _ _ _ h => h) (Or.inl ⟨by rfl, ?_⟩) ?_ ?_
       rotate_left
       ·intro w'
        go_simp
        with_reducible rfl
       rotate_left
       ·simp only [Act.put, sA, sZ, sS, i64_w, i32_w]
        rfl
       refine done_ (done_of HT_.out (by kernel_rfl)) ?_
       try go_wp2
       go_meet
       case rel => exact ⟨_, (true), (by first | rfl | (simp; done) | (simp [*]; done)), H', ⟨by have := HK1.out; have := HK2.out; first | omega | exact Nat.le_refl _⟩, ⟨by (with_reducible repeat (first | apply Kd.S_alloc | apply Kd.S_drewN | apply Kd.S_drew)); exact HO_4.out⟩, ⟨by (with_reducible repeat (first | refine bN ?_ _ | refine bD ?_ | refine bA ?_ _)); first | exact BK101.out | (rw [← Nbq27.out]; exact BK101.out) | (rw [← Nbq46.out]; exact BK101.out)⟩, ⟨by (with_reducible repeat (first | refine bN ?_ _ | refine bD ?_ | refine bA ?_ _)); first | exact BK110.out | (rw [← Nbq27.out]; exact BK110.out) | (rw [← Nbq46.out]; exact BK110.out)⟩, ⟨by repeat (first | (with_reducible first | exact HB.out | apply lA | apply lN | apply lD | refine lS ?_ GE101.out | refine lS ?_ GE110.out) | exact HB.out)⟩⟩
      rw [if_pos c26] at H
      have c26b0 : (((rd_T54 ((rd_T52 t104 x5_1).vars) x6_2).n) == 0) = true := beq_iff_eq.mpr c26
      have c26b1 : (((rd_T54 ((rd_T52 t104 x5_1).vars) x6_2).n) != 0) = false := bne_eq_false_iff_eq.mpr c26
      clear c26
      obtain ⟨bq27, hbq27⟩ : ∃ b_ : Bool, b_ = ((rd_T54 ((rd_T52 t104 x5_1).vars) x6_2).taint) := ⟨_, rfl⟩
      replace H : (if bq27 = true then (lambrequinlaw22_InterpReaches.j2 k2 t102 t104 x5_1 x6_2 true l0_0 l0_1 l0_2 a0_3) else (lambrequinlaw22_InterpReaches.j2 k2 t102 t104 x5_1 x6_2 (((rd_T54 ((rd_T52 t104 x5_1).vars) x6_2).last) != (-1)) l0_0 l0_1 l0_2 a0_3)) = some r := by rw [← hbq27] at H; exact H
      have Nbq27 := am hbq27
      clear hbq27
      as_aux_lemma =>
      by_cases c28 : bq27 = true
      ·subst c28
       (try rw [← Nbq27.out])
       have H1 : (lambrequinlaw22_InterpReaches.j2 k2 t102 t104 x5_1 x6_2 true l0_0 l0_1 l0_2 a0_3) = some r := by rw [if_pos rfl] at H; exact H
       clear H
       have H := H1
       clear H1
       have H' := am H
       clear H
       try go_wp2
       have n0_ : Aside0 (Kd.S k52 52 ((((w19.setCell ⟨gb110, 0, none⟩ (.string ((rd_T54 ((rd_T52 t104 x5_1).vars) x6_2).name))).setCell ⟨gb110, 1, none⟩ (.int .i64 ((rd_T54 ((rd_T52 t104 x5_1).vars) x6_2).n))).setCell ⟨gb110, 2, none⟩ (.int .i64 ((rd_T54 ((rd_T52 t104 x5_1).vars) x6_2).last))).setCell ⟨gb110, 3, none⟩ (.bool (true))) w.heap.size (fun k_ => k_ ≠ gb110) (.slice (some ad107) t104.length co13) t104) := ⟨by (with_reducible repeat (first | apply Kd.S_alloc | apply Kd.S_drewN | apply Kd.S_drew)); exact Kd.S_mono (Kd.S_far (p := ⟨gb110, 3, none⟩) (Kd.S_far (p := ⟨gb110, 2, none⟩) (Kd.S_far (p := ⟨gb110, 1, none⟩) (Kd.S_far (p := ⟨gb110, 0, none⟩) (Kd.S_mono HO_4.out (fun k_ hk => (⟨hk, hk.2⟩ : _ ∧ k_ ≠ gb110))) (fun _ hk => hk.2) _) (fun _ hk => hk.2) _) (fun _ hk => hk.2) _) (fun _ hk => hk.2) _) (fun _ hk => hk.1.2)⟩
       have n1_ : Aside0 (Kd.R k54 54 ((((w19.setCell ⟨gb110, 0, none⟩ (.string ((rd_T54 ((rd_T52 t104 x5_1).vars) x6_2).name))).setCell ⟨gb110, 1, none⟩ (.int .i64 ((rd_T54 ((rd_T52 t104 x5_1).vars) x6_2).n))).setCell ⟨gb110, 2, none⟩ (.int .i64 ((rd_T54 ((rd_T52 t104 x5_1).vars) x6_2).last))).setCell ⟨gb110, 3, none⟩ (.bool (true))) w.heap.size (fun k_ => some k_ ≠ (.slice (some ad107) t104.length co13 : Value).ownBlock ∧ k_ ≠ gb110) (.slice (some ad109) ((rd_T52 t104 x5_1).vars).length c107_1) ((rd_T52 t104 x5_1).vars)) := ⟨by (with_reducible repeat (first | apply Ra | apply Rn | apply Rd)); exact Kd.R_mono (Kd.R_far (p := ⟨gb110, 3, none⟩) (Kd.R_far (p := ⟨gb110, 2, none⟩) (Kd.R_far (p := ⟨gb110, 1, none⟩) (Kd.R_far (p := ⟨gb110, 0, none⟩) (Kd.R_mono HL107_1.out (fun k_ hk => (⟨hk, hk.2⟩ : _ ∧ k_ ≠ gb110))) (fun _ hk => hk.2) _) (fun _ hk => hk.2) _) (fun _ hk => hk.2) _) (fun _ hk => hk.2) _) (fun _ hk => ⟨hk.1.1.2, hk.1.2⟩)⟩
       have n2_ : Aside0 (Kd.R k54 54 ((((w19.setCell ⟨gb110, 0, none⟩ (.string ((rd_T54 ((rd_T52 t104 x5_1).vars) x6_2).name))).setCell ⟨gb110, 1, none⟩ (.int .i64 ((rd_T54 ((rd_T52 t104 x5_1).vars) x6_2).n))).setCell ⟨gb110, 2, none⟩ (.int .i64 ((rd_T54 ((rd_T52 t104 x5_1).vars) x6_2).last))).setCell ⟨gb110, 3, none⟩ (.bool (true))) w.heap.size (fun k_ => some k_ ≠ (.slice (some ad107) t104.length co13 : Value).ownBlock ∧ k_ ≠ gb110) (.slice (some ad109) ((rd_T52 t104 x5_1).vars).length c107_1) ((rd_T52 t104 x5_1).vars)) := ⟨by (with_reducible repeat (first | apply Ra | apply Rn | apply Rd)); exact Kd.R_mono (Kd.R_far (p := ⟨gb110, 3, none⟩) (Kd.R_far (p := ⟨gb110, 2, none⟩) (Kd.R_far (p := ⟨gb110, 1, none⟩) (Kd.R_far (p := ⟨gb110, 0, none⟩) (Kd.R_mono HL108_1.out (fun k_ hk => (⟨hk, hk.2⟩ : _ ∧ k_ ≠ gb110))) (fun _ hk => hk.2) _) (fun _ hk => hk.2) _) (fun _ hk => hk.2) _) (fun _ hk => hk.2) _) (fun _ hk => ⟨hk.1.1.2, hk.1.2⟩)⟩
       have n3_ : Aside0 (((((w19.setCell ⟨gb110, 0, none⟩ (.string ((rd_T54 ((rd_T52 t104 x5_1).vars) x6_2).name))).setCell ⟨gb110, 1, none⟩ (.int .i64 ((rd_T54 ((rd_T52 t104 x5_1).vars) x6_2).n))).setCell ⟨gb110, 2, none⟩ (.int .i64 ((rd_T54 ((rd_T52 t104 x5_1).vars) x6_2).last))).setCell ⟨gb110, 3, none⟩ (.bool (true))).heap[gb101]? = some (.cells #[.slice A0_0 l0_0.length c0_0, .slice A0_1 l0_1.length c0_1, .slice A0_2 l0_2.length c0_2, .int .i64 a0_3] 43 (0, 0))) := ⟨by repeat (first | (with_reducible first | exact BK101.out | refine bN ?_ _ | refine bD ?_ | refine bA ?_ _) | refine blk_far ?_ NB101_110.out _ | exact BK101.out)⟩
       have n4_ : Aside0 (((((w19.setCell ⟨gb110, 0, none⟩ (.string ((rd_T54 ((rd_T52 t104 x5_1).vars) x6_2).name))).setCell ⟨gb110, 1, none⟩ (.int .i64 ((rd_T54 ((rd_T52 t104 x5_1).vars) x6_2).n))).setCell ⟨gb110, 2, none⟩ (.int .i64 ((rd_T54 ((rd_T52 t104 x5_1).vars) x6_2).last))).setCell ⟨gb110, 3, none⟩ (.bool (true))).heap[gb110]? = some (.cells #[.string ((rd_T54 ((rd_T52 t104 x5_1).vars) x6_2).name), .int .i64 ((rd_T54 ((rd_T52 t104 x5_1).vars) x6_2).n), .int .i64 ((rd_T54 ((rd_T52 t104 x5_1).vars) x6_2).last), .bool true] 54 (0, 0))) := ⟨by (with_reducible repeat (first | refine bN ?_ _ | refine bD ?_ | refine bA ?_ _)); refine blk_put (cs := #[.string ((rd_T54 ((rd_T52 t104 x5_1).vars) x6_2).name), .int .i64 ((rd_T54 ((rd_T52 t104 x5_1).vars) x6_2).n), .int .i64 ((rd_T54 ((rd_T52 t104 x5_1).vars) x6_2).last), .bool false]) ?_ 3 _ rfl; (with_reducible repeat (first | refine bN ?_ _ | refine bD ?_ | refine bA ?_ _)); refine blk_put (cs := #[.string ((rd_T54 ((rd_T52 t104 x5_1).vars) x6_2).name), .int .i64 ((rd_T54 ((rd_T52 t104 x5_1).vars) x6_2).n), .int .i64 0, .bool false]) ?_ 2 _ rfl; (with_reducible repeat (first | refine bN ?_ _ | refine bD ?_ | refine bA ?_ _)); refine blk_put (cs := #[.string ((rd_T54 ((rd_T52 t104 x5_1).vars) x6_2).name), .int .i64 0, .int .i64 0, .bool false]) ?_ 1 _ rfl; (with_reducible repeat (first | refine bN ?_ _ | refine bD ?_ | refine bA ?_ _)); refine blk_put (cs := #[.string (⟨#[]⟩ : ByteArray), .int .i64 0, .int .i64 0, .bool false]) ?_ 0 _ rfl; (with_reducible repeat (first | refine bN ?_ _ | refine bD ?_ | refine bA ?_ _)); exact BK110.out⟩
       have n5_ : Aside0 (Below w.heap.size w ((((w19.setCell ⟨gb110, 0, none⟩ (.string ((rd_T54 ((rd_T52 t104 x5_1).vars) x6_2).name))).setCell ⟨gb110, 1, none⟩ (.int .i64 ((rd_T54 ((rd_T52 t104 x5_1).vars) x6_2).n))).setCell ⟨gb110, 2, none⟩ (.int .i64 ((rd_T54 ((rd_T52 t104 x5_1).vars) x6_2).last))).setCell ⟨gb110, 3, none⟩ (.bool (true)))) := ⟨by repeat (first | (with_reducible first | exact HB.out | apply lA | apply lN | apply lD | refine lS ?_ GE101.out | refine lS ?_ GE110.out) | exact HB.out)⟩
       (try clear HO_4)
       (try clear HL107_1)
       (try clear HL108_1)
       (try clear BK101)
       (try clear BK110)
       (try clear HB)
       generalize ((((w19.setCell ⟨gb110, 0, none⟩ (.string ((rd_T54 ((rd_T52 t104 x5_1).vars) x6_2).name))).setCell ⟨gb110, 1, none⟩ (.int .i64 ((rd_T54 ((rd_T52 t104 x5_1).vars) x6_2).n))).setCell ⟨gb110, 2, none⟩ (.int .i64 ((rd_T54 ((rd_T52 t104 x5_1).vars) x6_2).last))).setCell ⟨gb110, 3, none⟩ (.bool (true))) = w29 at n0_ n1_ n2_ n3_ n4_ n5_ ⊢
       have HO_4 := n0_
       have HL107_1 := n1_
       have HL108_1 := n2_
       have BK101 := n3_
       have BK110 := n4_
       have HB := n5_
       clear n0_ n1_ n2_ n3_ n4_ n5_
       replace HO_4 := am (Kd.S_drew HO_4.out)
       replace HL107_1 := am (Kd.R_drew HL107_1.out)
       replace HL108_1 := am (Kd.R_drew HL108_1.out)
       replace BK101 := am (blk_drew BK101.out)
       replace BK110 := am (blk_drew BK110.out)
       replace HB := am (below_drew1 HB.out)
       have p111 : 0 ≤ (x5_1 : Int) := of_decide_eq_true (by first | (with_reducible assumption) | assumption)
       have q111 : x5_1 < (t104.length : Int) := of_decide_eq_true (by first | (with_reducible assumption) | assumption)
       obtain ⟨ad111, A111_1, c111_1, e111, hx111_0, hx111_1, hl111_1, hi111_1⟩ := at_T52 (Kd.S_reads' HO_4.out).2.2 x5_1 p111 q111
       obtain rfl : ad107 = ad111 := (by injection e111)
       obtain ⟨ce111, hce111, hMe111, hcc111⟩ := Kd.S_get HO_4.out z52 x5_1 p111 (by first | exact q111 | exact of_decide_eq_true (by first | (with_reducible assumption) | assumption) | (have e_ := (Kd.S_reads' HO_4.out).1; omega))
       obtain ⟨ve111_1, rfl, ge111_1⟩ := k52_openM hMe111
       have hv111_1 := hcc111 1 _ rfl
       rw [add_field _ _ 1 (by omega)] at hv111_1
       replace hv111_1 := Option.some.inj (hv111_1.symm.trans hx111_1)
       rw [hv111_1] at ge111_1
       have HL111_1 := am (show Kd.R k54 54 _ _ _ _ ((rd_T52 t104 x5_1).vars) from ge111_1)
       clear hv111_1 ge111_1
       clear hcc111 hce111
       have HR111_1 := am hi111_1
       have HC111_1 := am hl111_1
       clear hi111_1 hl111_1
       replace p111 := eq_true p111
       replace q111 := eq_true q111
       refine start_ (n := 37) (S := fun w' => w'.cell? ⟨gb110, 0, none⟩ = some (.string ((rd_T54 ((rd_T52 t104 x5_1).vars) x6_2).name)) ∧ w'.cell? ⟨gb110, 1, none⟩ = some (.int .i64 ((rd_T54 ((rd_T52 t104 x5_1).vars) x6_2).n)) ∧ w'.cell? ⟨gb110, 2, none⟩ = some (.int .i64 ((rd_T54 ((rd_T52 t104 x5_1).vars) x6_2).last)) ∧ w'.cell? ⟨gb110, 3, none⟩ = some (.bool true) ∧ w'.cell? ⟨gb101, 0, none⟩ = some (.slice A0_0 l0_0.length c0_0) ∧ w'.cell? ⟨gb101, 1, none⟩ = some (.slice A0_1 l0_1.length c0_1) ∧ w'.cell? ⟨gb101, 2, none⟩ = some (.slice A0_2 l0_2.length c0_2) ∧ w'.cell? ⟨gb101, 3, none⟩ = some (.int .i64 a0_3) ∧ w'.cell? (ad107.add ((x5_1).toNat * 2)) = some (.int .i64 ((rd_T52 t104 x5_1).place)) ∧ w'.cell? ⟨(ad107.add ((x5_1).toNat * 2)).block, (ad107.add ((x5_1).toNat * 2)).off + 1, none⟩ = some (.slice A111_1 ((rd_T52 t104 x5_1).vars).length c111_1)) (ds := []) (bl 37 0) (by kernel_rfl) rfl rfl ⟨(blk_cell BK110.out 0).trans rfl, (blk_cell BK110.out 1).trans rfl, (blk_cell BK110.out 2).trans rfl, (blk_cell BK110.out 3).trans rfl, (blk_cell BK101.out 0).trans rfl, (blk_cell BK101.out 1).trans rfl, (blk_cell BK101.out 2).trans rfl, (blk_cell BK101.out 3).trans rfl, hx111_0, hx111_1⟩ (fun hHeld => ?_); refine with_tabW lambrequinlaw22_InterpReaches.tab12 lambrequinlaw22_InterpReaches.bits12 (fun HT_ HW_ => ?_)
       generalize w29.drew = w30 at HO_4 HL107_1 HL108_1 BK101 BK110 HB HL111_1 HR111_1 hx111_0 hx111_1 hHeld ⊢
       refine pure_ (i := 0) (N := some 46) (v := ?_) (a' := ?_) (bl 37 1) rfl rfl (any_of HT_.out (by kernel_rfl)) (fun _ _ _ h => h) (Or.inl ⟨by rfl, ?_⟩) ?_ ?_
       rotate_left
       ·intro w'
        go_simp
        with_reducible rfl
       rotate_left
       ·simp only [Act.put, sA, sZ, sS, i64_w, i32_w]
        rfl
       refine take_ (i := 1) (N := some 47) (v := ?_) (a' := ?_) (bl 37 3) rfl rfl (take_ofW HT_.out HW_.out (by kernel_rfl)) (fun _ _ _ h => h) (Or.inl ⟨by rfl, ?_⟩) hHeld ?_ ?_
       rotate_left
       ·rintro w' ⟨s0, s1, s2, s3, s4, s5, s6, s7, s8, s9⟩
        go_simp
        with_reducible rfl
       rotate_left
       ·simp only [Act.put, sA, sZ, sS, i64_w, i32_w]
        rfl
       refine pure_ (i := 2) (N := some 48) (v := ?_) (a' := ?_) (bl 37 7) rfl rfl (any_of HT_.out (by kernel_rfl)) (fun _ _ _ h => h) (Or.inl ⟨by rfl, ?_⟩) ?_ ?_
       rotate_left
       ·intro w'
        go_simp
        with_reducible rfl
       rotate_left
       ·simp only [Act.put, sA, sZ, sS, i64_w, i32_w]
        rfl
       refine pure_ (i := 3) (N := some 49) (v := ?_) (a' := ?_) (bl 37 15) rfl rfl (any_of HT_.out (by kernel_rfl)) (fun _ _ _ h => h) (Or.inl ⟨by rfl, ?_⟩) ?_ ?_
       rotate_left
       ·intro w'
        go_simp
        with_reducible rfl
       rotate_left
       ·simp only [Act.put, sA, sZ, sS, i64_w, i32_w]
        rfl
       refine pure_ (i := 4) (N := some 50) (v := ?_) (a' := ?_) (bl 37 31) rfl rfl (any_of HT_.out (by kernel_rfl)) (fun _ _ _ h => h) (Or.inl ⟨by rfl, ?_⟩) ?_ ?_
       rotate_left
       ·intro w'
        go_simp
        with_reducible rfl
       rotate_left
       ·simp only [Act.put, sA, sZ, sS, i64_w, i32_w]
        rfl
       refine pure_ (i := 6) (N := some 52) (v := ?_) (a' := ?_) (bl 37 95) rfl rfl (any_of HT_.out (by kernel_rfl)) (fun _ _ _ h => h) (Or.inl ⟨by rfl, ?_⟩) ?_ ?_
       rotate_left
       ·intro w'
        go_simp
        with_reducible rfl
       rotate_left
       ·simp only [Act.put, sA, sZ, sS, i64_w, i32_w]
        rfl
       refine pure_ (i := 7) (N := some 53) (v := ?_) (a' := ?_) (bl 37 223) rfl rfl (any_of HT_.out (by kernel_rfl)) (fun _ _ _ h => h) (Or.inl ⟨by rfl, ?_⟩) ?_ ?_
       rotate_left
       ·intro w'
        go_simp
        with_reducible rfl
       rotate_left
       ·simp only [Act.put, sA, sZ, sS, i64_w, i32_w]
        rfl
       refine pure_ (i := 8) (N := some 54) (v := ?_) (a' := ?_) (bl 37 479) rfl rfl (any_of HT_.out (by kernel_rfl)) (fun _ _ _ h => h) (Or.inl ⟨by rfl, ?_⟩) ?_ ?_
       rotate_left
       ·intro w'
        go_simp
        with_reducible rfl
       rotate_left
       ·simp only [Act.put, sA, sZ, sS, i64_w, i32_w]
        rfl
       refine pure_ (i := 9) (N := some 55) (v := ?_) (a' := ?_) (bl 37 991) rfl rfl (any_of HT_.out (by kernel_rfl)) (fun _ _ _ h => h) (Or.inl ⟨by rfl, ?_⟩) ?_ ?_
       rotate_left
       ·intro w'
        go_simp
        with_reducible rfl
       rotate_left
       ·simp only [Act.put, sA, sZ, sS, i64_w, i32_w]
        rfl
       refine pure_ (i := 11) (N := some 57) (v := ?_) (a' := ?_) (bl 37 3039) rfl rfl (any_of HT_.out (by kernel_rfl)) (fun _ _ _ h => h) (Or.inl ⟨by rfl, ?_⟩) ?_ ?_
       rotate_left
       ·intro w'
        go_simp
        with_reducible rfl
       rotate_left
       ·simp only [Act.put, sA, sZ, sS, i64_w, i32_w]
        rfl
       refine pure_ (i := 13) (N := some 59) (v := ?_) (a' := ?_) (bl 37 11231) rfl rfl (any_of HT_.out (by kernel_rfl)) (fun _ _ _ h => h) (Or.inl ⟨by rfl, ?_⟩) ?_ ?_
       rotate_left
       ·intro w'
        go_simp
        with_reducible rfl
       rotate_left
       ·simp only [Act.put, sA, sZ, sS, i64_w, i32_w]
        rfl
       refine take_ (i := 5) (N := some 51) (v := ?_) (a' := ?_) (bl 37 11263) rfl rfl (take_ofW HT_.out HW_.out (by kernel_rfl)) (fun _ _ _ h => h) (Or.inl ⟨by rfl, ?_⟩) hHeld ?_ ?_
       rotate_left
       ·rintro w' ⟨s0, s1, s2, s3, s4, s5, s6, s7, s8, s9⟩
        go_simp
        with_reducible rfl
       rotate_left
       ·simp only [Act.put, sA, sZ, sS, i64_w, i32_w]
        rfl
       refine take_ (i := 10) (N := some 56) (v := ?_) (a' := ?_) (bl 37 12287) rfl rfl (take_ofW HT_.out HW_.out (by kernel_rfl)) (fun _ _ _ h => h) (Or.inl ⟨by rfl, ?_⟩) hHeld ?_ ?_
       rotate_left
       ·rintro w' ⟨s0, s1, s2, s3, s4, s5, s6, s7, s8, s9⟩
        go_simp
        with_reducible rfl
       rotate_left
       ·simp only [Act.put, sA, sZ, sS, i64_w, i32_w]
        rfl
       refine take_ (i := 12) (N := some 58) (v := ?_) (a' := ?_) (bl 37 16383) rfl rfl (take_ofW HT_.out HW_.out (by kernel_rfl)) (fun _ _ _ h => h) (Or.inl ⟨by rfl, ?_⟩) hHeld ?_ ?_
       rotate_left
       ·rintro w' ⟨s0, s1, s2, s3, s4, s5, s6, s7, s8, s9⟩
        go_simp
        with_reducible rfl
       rotate_left
       ·simp only [Act.put, sA, sZ, sS, i64_w, i32_w]
        rfl
       refine take_ (i := 14) (N := some 60) (v := ?_) (a' := ?_) (bl 37 32767) rfl rfl (take_ofW HT_.out HW_.out (by kernel_rfl)) (fun _ _ _ h => h) (Or.inl ⟨by rfl, ?_⟩) hHeld ?_ ?_
       rotate_left
       ·rintro w' ⟨s0, s1, s2, s3, s4, s5, s6, s7, s8, s9⟩
        go_simp
        with_reducible rfl
       rotate_left
       ·simp only [Act.put, sA, sZ, sS, i64_w, i32_w]
        rfl
       refine one_ (i := 15) (N := some 61) (bl 37 65535) rfl rfl (one_of HT_.out (by kernel_rfl)) (by decide) (fun K hK => ?_)
       refine goes_ Try.func23 (by kernel_rfl) rfl #[.slice A0_0 l0_0.length c0_0, .int .i64 ((rd_T52 t104 x5_1).place), .string ((rd_T54 ((rd_T52 t104 x5_1).vars) x6_2).name), .int .i64 ((rd_T54 ((rd_T52 t104 x5_1).vars) x6_2).last)] (by rfl) rfl rfl (by (try simp only [List.map_toArray, List.map_cons, List.map_nil]); first | done | rfl | (simp only [List.length_drop, List.length_take]; rfl)) ?_
       with_reducible refine (cfg_Reaches.calls k2 _ _ l0_0 ((rd_T52 t104 x5_1).place) ((rd_T54 ((rd_T52 t104 x5_1).vars) x6_2).name) ((rd_T54 ((rd_T52 t104 x5_1).vars) x6_2).last) true _ ?side1 ?side2 A23.out).mono ?_
       (case side1 => repeat (first | exact (Kd.C_below HR0_0.out HB.out) | (with_reducible refine Kd.C_alloc ?_ _) | (with_reducible refine Kd.C_drewN ?_ _) | (with_reducible refine Kd.C_drew ?_)))
       (case side2 => exact HC0_0.out)
       rintro e w31 ⟨rfl, hb⟩
       have HS8_ := (hb.cell (blt_ (hHeld.2.2.2.2.2.2.2.2.1))).trans (hHeld.2.2.2.2.2.2.2.2.1)
       have HS9_ := (hb.cell (blt_ (hHeld.2.2.2.2.2.2.2.2.2))).trans (hHeld.2.2.2.2.2.2.2.2.2)
       refine ⟨_, rfl, ?_⟩
       replace HO_4 := am (Kd.S_below (by (with_reducible repeat (first | apply Kd.S_alloc | apply Kd.S_drewN | apply Kd.S_drew)); exact HO_4.out) hb)
       replace HL107_1 := am (Kd.R_below (by (with_reducible repeat (first | apply Ra | apply Rn | apply Rd)); exact HL107_1.out) hb)
       replace HL108_1 := am (Kd.R_below (by (with_reducible repeat (first | apply Ra | apply Rn | apply Rd)); exact HL108_1.out) hb)
       replace HL111_1 := am (Kd.R_below (by (with_reducible repeat (first | apply Ra | apply Rn | apply Rd)); exact HL111_1.out) hb)
       replace BK101 := am (blk_below (g := gb101) (o := .cells #[.slice A0_0 l0_0.length c0_0, .slice A0_1 l0_1.length c0_1, .slice A0_2 l0_2.length c0_2, .int .i64 a0_3] 43 (0, 0)) (by (with_reducible repeat (first | refine bN ?_ _ | refine bD ?_ | refine bA ?_ _)); exact BK101.out) hb)
       replace BK110 := am (blk_below (g := gb110) (o := .cells #[.string ((rd_T54 ((rd_T52 t104 x5_1).vars) x6_2).name), .int .i64 ((rd_T54 ((rd_T52 t104 x5_1).vars) x6_2).n), .int .i64 ((rd_T54 ((rd_T52 t104 x5_1).vars) x6_2).last), .bool true] 54 (0, 0)) (by (with_reducible repeat (first | refine bN ?_ _ | refine bD ?_ | refine bA ?_ _)); exact BK110.out) hb)
       replace HR111_1 := am (Kd.C_below (by first | (with_reducible exact HR111_1.out) | (with_reducible exact Kd.C_drewN HR111_1.out _) | (repeat (first | (with_reducible exact HR111_1.out) | (with_reducible refine Kd.C_alloc ?_ _) | (with_reducible refine Kd.C_drewN ?_ _) | (with_reducible refine Kd.C_drew ?_) | exact HR111_1.out))) hb)
       replace HB := am (below_step (by repeat (first | (with_reducible first | exact HB.out | apply lA | apply lN | apply lD | refine lS ?_ GE101.out | refine lS ?_ GE110.out) | exact HB.out)) hb)
       (try clear hb)
       (try clear hb2)
       (try clear hk)
       (try clear hi)
       refine hK.out _ _ ⟨(blk_cell BK110.out 0).trans rfl, (blk_cell BK110.out 1).trans rfl, (blk_cell BK110.out 2).trans rfl, (blk_cell BK110.out 3).trans rfl, (blk_cell BK101.out 0).trans rfl, (blk_cell BK101.out 1).trans rfl, (blk_cell BK101.out 2).trans rfl, (blk_cell BK101.out 3).trans rfl, HS8_, HS9_⟩ (fun hHeld => ?_)
       clear hK K
       refine norm_ (a' := ?_) ?_ ?_
       rotate_left
       ·show Act.put _ (some 61) _ = _
        simp only [Act.put, sA, sZ, sS, i64_w, i32_w]
        rfl
       refine pure_ (i := 16) (N := some 62) (v := ?_) (a' := ?_) (bl 37 131071) rfl rfl (any_of HT_.out (by kernel_rfl)) (fun _ _ _ h => h) (Or.inl ⟨by rfl, ?_⟩) ?_ ?_
       rotate_left
       ·intro w'
        go_simp
        with_reducible rfl
       rotate_left
       ·simp only [Act.put, sA, sZ, sS, i64_w, i32_w]
        rfl
       refine pure_ (i := 17) (N := some 63) (v := ?_) (a' := ?_) (bl 37 262143) rfl rfl (any_of HT_.out (by kernel_rfl)) (fun _ _ _ h => h) (Or.inl ⟨by rfl, ?_⟩) ?_ ?_
       rotate_left
       ·intro w'
        go_simp
        with_reducible rfl
       rotate_left
       ·simp only [Act.put, sA, sZ, sS, i64_w, i32_w]
        rfl
       refine pure_ (i := 18) (N := some 64) (v := ?_) (a' := ?_) (bl 37 524287) rfl rfl (any_of HT_.out (by kernel_rfl)) (fun _ _ _ h => h) (Or.inl ⟨by rfl, ?_⟩) ?_ ?_
       rotate_left
       ·intro w'
        go_simp
        with_reducible rfl
       rotate_left
       ·simp only [Act.put, sA, sZ, sS, i64_w, i32_w]
        rfl
       refine pure_ (i := 19) (N := some 65) (v := ?_) (a' := ?_) (bl 37 1048575) rfl rfl (any_of HT_.out (by kernel_rfl)) (fun _ _ _ h => h) (Or.inl ⟨by rfl, ?_⟩) ?_ ?_
       rotate_left
       ·intro w'
        go_simp
        with_reducible rfl
       rotate_left
       ·simp only [Act.put, sA, sZ, sS, i64_w, i32_w]
        rfl
       refine take_ (i := 20) (N := some 66) (v := ?_) (a' := ?_) (bl 37 2097151) rfl rfl (take_ofW HT_.out HW_.out (by kernel_rfl)) (fun _ _ _ h => h) (Or.inl ⟨by rfl, ?_⟩) hHeld ?_ ?_
       rotate_left
       ·rintro w' ⟨s0, s1, s2, s3, s4, s5, s6, s7, s8, s9⟩
        go_simp
        with_reducible rfl
       rotate_left
       ·simp only [Act.put, sA, sZ, sS, i64_w, i32_w]
        rfl
       refine pure_ (i := 21) (N := some 67) (v := ?_) (a' := ?_) (bl 37 4194303) rfl rfl (any_of HT_.out (by kernel_rfl)) (fun _ _ _ h => h) (Or.inl ⟨by rfl, ?_⟩) ?_ ?_
       rotate_left
       ·intro w'
        go_simp
        with_reducible rfl
       rotate_left
       ·simp only [Act.put, sA, sZ, sS, i64_w, i32_w]
        rfl
       refine pure_ (i := 22) (N := some 68) (v := ?_) (a' := ?_) (bl 37 8388607) rfl rfl (any_of HT_.out (by kernel_rfl)) (fun _ _ _ h => h) (Or.inl ⟨by rfl, ?_⟩) ?_ ?_
       rotate_left
       ·intro w'
        go_simp
        with_reducible rfl
       rotate_left
       ·simp only [Act.put, sA, sZ, sS, i64_w, i32_w]
        rfl
       refine pure_ (i := 23) (N := some 69) (v := ?_) (a' := ?_) (bl 37 16777215) rfl rfl (any_of HT_.out (by kernel_rfl)) (fun _ _ _ h => h) (Or.inl ⟨by rfl, ?_⟩) ?_ ?_
       rotate_left
       ·intro w'
        go_simp
        with_reducible rfl
       rotate_left
       ·simp only [Act.put, sA, sZ, sS, i64_w, i32_w]
        rfl
       refine take_ (i := 24) (N := some 70) (v := ?_) (a' := ?_) (bl 37 33554431) rfl rfl (take_ofW HT_.out HW_.out (by kernel_rfl)) (fun _ _ _ h => h) (Or.inl ⟨by rfl, ?_⟩) hHeld ?_ ?_
       rotate_left
       ·rintro w' ⟨s0, s1, s2, s3, s4, s5, s6, s7, s8, s9⟩
        go_simp
        with_reducible rfl
       rotate_left
       ·simp only [Act.put, sA, sZ, sS, i64_w, i32_w]
        rfl
       refine pure_ (i := 25) (N := some 71) (v := ?_) (a' := ?_) (bl 37 67108863) rfl rfl (any_of HT_.out (by kernel_rfl)) (fun _ _ _ h => h) (Or.inl ⟨by rfl, ?_⟩) ?_ ?_
       rotate_left
       ·intro w'
        go_simp
        with_reducible rfl
       rotate_left
       ·simp only [Act.put, sA, sZ, sS, i64_w, i32_w]
        rfl
       refine pure_ (i := 26) (N := some 72) (v := ?_) (a' := ?_) (bl 37 134217727) rfl rfl (any_of HT_.out (by kernel_rfl)) (fun _ _ _ h => h) (Or.inl ⟨by rfl, ?_⟩) ?_ ?_
       rotate_left
       ·intro w'
        go_simp
        with_reducible rfl
       rotate_left
       ·simp only [Act.put, sA, sZ, sS, i64_w, i32_w]
        rfl
       refine pure_ (i := 27) (N := some 73) (v := ?_) (a' := ?_) (bl 37 268435455) rfl rfl (any_of HT_.out (by kernel_rfl)) (fun _ _ _ h => h) (Or.inl ⟨by rfl, ?_⟩) ?_ ?_
       rotate_left
       ·intro w'
        go_simp
        with_reducible rfl
       rotate_left
       ·simp only [Act.put, sA, sZ, sS, i64_w, i32_w]
        rfl
       refine take_ (i := 28) (N := some 74) (v := ?_) (a' := ?_) (bl 37 536870911) rfl rfl (take_ofW HT_.out HW_.out (by kernel_rfl)) (fun _ _ _ h => h) (Or.inl ⟨by rfl, ?_⟩) hHeld ?_ ?_
       rotate_left
       ·rintro w' ⟨s0, s1, s2, s3, s4, s5, s6, s7, s8, s9⟩
        go_simp
        with_reducible rfl
       rotate_left
       ·simp only [Act.put, sA, sZ, sS, i64_w, i32_w]
        rfl
       refine pure_ (i := 29) (N := some 75) (v := ?_) (a' := ?_) (bl 37 1073741823) rfl rfl (any_of HT_.out (by kernel_rfl)) (fun _ _ _ h => h) (Or.inl ⟨by rfl, ?_⟩) ?_ ?_
       rotate_left
       ·intro w'
        go_simp
        with_reducible rfl
       rotate_left
       ·simp only [Act.put, sA, sZ, sS, i64_w, i32_w]
        rfl
       refine pure_ (i := 30) (N := some 76) (v := ?_) (a' := ?_) (bl 37 2147483647) rfl rfl (any_of HT_.out (by kernel_rfl)) (fun _ _ _ h => h) (Or.inl ⟨by rfl, ?_⟩) ?_ ?_
       rotate_left
       ·intro w'
        go_simp
        with_reducible rfl
       rotate_left
       ·simp only [Act.put, sA, sZ, sS, i64_w, i32_w]
        rfl
       refine pure_ (i := 31) (N := some 77) (v := undef) (a' := ?_) (bl 37 4294967295) rfl rfl (any_of HT_.out (by kernel_rfl)) (fun _ _ _ h => h) (Or.inr ⟨by rfl, rfl⟩) ?_ ?_
       rotate_left
       ·simp only [Act.put, sA, sZ, sS, i64_w, i32_w]
        rfl
       refine pure_ (i := 32) (N := some 78) (v := undef) (a' := ?_) (bl 37 8589934591) rfl rfl (any_of HT_.out (by kernel_rfl)) (fun _ _ _ h => h) (Or.inr ⟨by rfl, rfl⟩) ?_ ?_
       rotate_left
       ·simp only [Act.put, sA, sZ, sS, i64_w, i32_w]
        rfl
       refine pure_ (i := 33) (N := some 79) (v := undef) (a' := ?_) (bl 37 17179869183) rfl rfl (any_of HT_.out (by kernel_rfl)) (fun _ _ _ h => h) (Or.inr ⟨by rfl, rfl⟩) ?_ ?_
       rotate_left
       ·simp only [Act.put, sA, sZ, sS, i64_w, i32_w]
        rfl
       refine pure_ (i := 34) (N := some 80) (v := ?_) (a' := ?_) (bl 37 34359738367) rfl rfl (any_of HT_.out (by kernel_rfl)) (fun _ _ _ h => h) (Or.inl ⟨by rfl, ?_⟩) ?_ ?_
       rotate_left
       ·intro w'
        go_simp
        with_reducible rfl
       rotate_left
       ·simp only [Act.put, sA, sZ, sS, i64_w, i32_w]
        rfl
       refine pure_ (i := 35) (N := some 81) (v := ?_) (a' := ?_) (bl 37 68719476735) rfl rfl (any_of HT_.out (by kernel_rfl)) (fun _ _ _ h => h) (Or.inl ⟨by rfl, ?_⟩) ?_ ?_
       rotate_left
       ·intro w'
        go_simp
        with_reducible rfl
       rotate_left
       ·simp only [Act.put, sA, sZ, sS, i64_w, i32_w]
        rfl
       refine pure_ (i := 36) (N := some 82) (v := ?_) (a' := ?_) (bl 37 137438953471) rfl rfl (any_of HT_.out (by kernel_rfl)) (fun _ _ _ h => h) (Or.inl ⟨by rfl, ?_⟩) ?_ ?_
       rotate_left
       ·intro w'
        go_simp
        with_reducible rfl
       rotate_left
       ·simp only [Act.put, sA, sZ, sS, i64_w, i32_w]
        rfl
       refine done_ (done_of HT_.out (by kernel_rfl)) ?_
       try go_wp2
       go_meet
       case rel => exact ⟨_, (true), (by first | rfl | (simp; done) | (simp [*]; done)), H', ⟨by have := HK1.out; have := HK2.out; first | omega | exact Nat.le_refl _⟩, ⟨by (with_reducible repeat (first | apply Kd.S_alloc | apply Kd.S_drewN | apply Kd.S_drew)); exact HO_4.out⟩, ⟨by (with_reducible repeat (first | refine bN ?_ _ | refine bD ?_ | refine bA ?_ _)); first | exact BK101.out | (rw [← Nbq27.out]; exact BK101.out) | (rw [← Nbq46.out]; exact BK101.out)⟩, ⟨by (with_reducible repeat (first | refine bN ?_ _ | refine bD ?_ | refine bA ?_ _)); first | exact BK110.out | (rw [← Nbq27.out]; exact BK110.out) | (rw [← Nbq46.out]; exact BK110.out)⟩, ⟨by repeat (first | (with_reducible first | exact HB.out | apply lA | apply lN | apply lD | refine lS ?_ GE101.out | refine lS ?_ GE110.out) | exact HB.out)⟩⟩
      replace c28 := Bool.eq_false_iff.mpr c28
      subst c28
      (try rw [← Nbq27.out])
      have H1 : (lambrequinlaw22_InterpReaches.j2 k2 t102 t104 x5_1 x6_2 (((rd_T54 ((rd_T52 t104 x5_1).vars) x6_2).last) != (-1)) l0_0 l0_1 l0_2 a0_3) = some r := by rw [if_neg (show ¬ (false = true) by decide)] at H; exact H
      clear H
      have H := H1
      clear H1
      have H' := am H
      clear H
      try go_wp2
      have n0_ : Aside0 (Kd.S k52 52 ((((w19.setCell ⟨gb110, 0, none⟩ (.string ((rd_T54 ((rd_T52 t104 x5_1).vars) x6_2).name))).setCell ⟨gb110, 1, none⟩ (.int .i64 ((rd_T54 ((rd_T52 t104 x5_1).vars) x6_2).n))).setCell ⟨gb110, 2, none⟩ (.int .i64 ((rd_T54 ((rd_T52 t104 x5_1).vars) x6_2).last))).setCell ⟨gb110, 3, none⟩ (.bool (false))) w.heap.size (fun k_ => k_ ≠ gb110) (.slice (some ad107) t104.length co13) t104) := ⟨by (with_reducible repeat (first | apply Kd.S_alloc | apply Kd.S_drewN | apply Kd.S_drew)); exact Kd.S_mono (Kd.S_far (p := ⟨gb110, 3, none⟩) (Kd.S_far (p := ⟨gb110, 2, none⟩) (Kd.S_far (p := ⟨gb110, 1, none⟩) (Kd.S_far (p := ⟨gb110, 0, none⟩) (Kd.S_mono HO_4.out (fun k_ hk => (⟨hk, hk.2⟩ : _ ∧ k_ ≠ gb110))) (fun _ hk => hk.2) _) (fun _ hk => hk.2) _) (fun _ hk => hk.2) _) (fun _ hk => hk.2) _) (fun _ hk => hk.1.2)⟩
      have n1_ : Aside0 (Kd.R k54 54 ((((w19.setCell ⟨gb110, 0, none⟩ (.string ((rd_T54 ((rd_T52 t104 x5_1).vars) x6_2).name))).setCell ⟨gb110, 1, none⟩ (.int .i64 ((rd_T54 ((rd_T52 t104 x5_1).vars) x6_2).n))).setCell ⟨gb110, 2, none⟩ (.int .i64 ((rd_T54 ((rd_T52 t104 x5_1).vars) x6_2).last))).setCell ⟨gb110, 3, none⟩ (.bool (false))) w.heap.size (fun k_ => some k_ ≠ (.slice (some ad107) t104.length co13 : Value).ownBlock ∧ k_ ≠ gb110) (.slice (some ad109) ((rd_T52 t104 x5_1).vars).length c107_1) ((rd_T52 t104 x5_1).vars)) := ⟨by (with_reducible repeat (first | apply Ra | apply Rn | apply Rd)); exact Kd.R_mono (Kd.R_far (p := ⟨gb110, 3, none⟩) (Kd.R_far (p := ⟨gb110, 2, none⟩) (Kd.R_far (p := ⟨gb110, 1, none⟩) (Kd.R_far (p := ⟨gb110, 0, none⟩) (Kd.R_mono HL107_1.out (fun k_ hk => (⟨hk, hk.2⟩ : _ ∧ k_ ≠ gb110))) (fun _ hk => hk.2) _) (fun _ hk => hk.2) _) (fun _ hk => hk.2) _) (fun _ hk => hk.2) _) (fun _ hk => ⟨hk.1.1.2, hk.1.2⟩)⟩
      have n2_ : Aside0 (Kd.R k54 54 ((((w19.setCell ⟨gb110, 0, none⟩ (.string ((rd_T54 ((rd_T52 t104 x5_1).vars) x6_2).name))).setCell ⟨gb110, 1, none⟩ (.int .i64 ((rd_T54 ((rd_T52 t104 x5_1).vars) x6_2).n))).setCell ⟨gb110, 2, none⟩ (.int .i64 ((rd_T54 ((rd_T52 t104 x5_1).vars) x6_2).last))).setCell ⟨gb110, 3, none⟩ (.bool (false))) w.heap.size (fun k_ => some k_ ≠ (.slice (some ad107) t104.length co13 : Value).ownBlock ∧ k_ ≠ gb110) (.slice (some ad109) ((rd_T52 t104 x5_1).vars).length c107_1) ((rd_T52 t104 x5_1).vars)) := ⟨by (with_reducible repeat (first | apply Ra | apply Rn | apply Rd)); exact Kd.R_mono (Kd.R_far (p := ⟨gb110, 3, none⟩) (Kd.R_far (p := ⟨gb110, 2, none⟩) (Kd.R_far (p := ⟨gb110, 1, none⟩) (Kd.R_far (p := ⟨gb110, 0, none⟩) (Kd.R_mono HL108_1.out (fun k_ hk => (⟨hk, hk.2⟩ : _ ∧ k_ ≠ gb110))) (fun _ hk => hk.2) _) (fun _ hk => hk.2) _) (fun _ hk => hk.2) _) (fun _ hk => hk.2) _) (fun _ hk => ⟨hk.1.1.2, hk.1.2⟩)⟩
      have n3_ : Aside0 (((((w19.setCell ⟨gb110, 0, none⟩ (.string ((rd_T54 ((rd_T52 t104 x5_1).vars) x6_2).name))).setCell ⟨gb110, 1, none⟩ (.int .i64 ((rd_T54 ((rd_T52 t104 x5_1).vars) x6_2).n))).setCell ⟨gb110, 2, none⟩ (.int .i64 ((rd_T54 ((rd_T52 t104 x5_1).vars) x6_2).last))).setCell ⟨gb110, 3, none⟩ (.bool (false))).heap[gb101]? = some (.cells #[.slice A0_0 l0_0.length c0_0, .slice A0_1 l0_1.length c0_1, .slice A0_2 l0_2.length c0_2, .int .i64 a0_3] 43 (0, 0))) := ⟨by repeat (first | (with_reducible first | exact BK101.out | refine bN ?_ _ | refine bD ?_ | refine bA ?_ _) | refine blk_far ?_ NB101_110.out _ | exact BK101.out)⟩
      have n4_ : Aside0 (((((w19.setCell ⟨gb110, 0, none⟩ (.string ((rd_T54 ((rd_T52 t104 x5_1).vars) x6_2).name))).setCell ⟨gb110, 1, none⟩ (.int .i64 ((rd_T54 ((rd_T52 t104 x5_1).vars) x6_2).n))).setCell ⟨gb110, 2, none⟩ (.int .i64 ((rd_T54 ((rd_T52 t104 x5_1).vars) x6_2).last))).setCell ⟨gb110, 3, none⟩ (.bool (false))).heap[gb110]? = some (.cells #[.string ((rd_T54 ((rd_T52 t104 x5_1).vars) x6_2).name), .int .i64 ((rd_T54 ((rd_T52 t104 x5_1).vars) x6_2).n), .int .i64 ((rd_T54 ((rd_T52 t104 x5_1).vars) x6_2).last), .bool false] 54 (0, 0))) := ⟨by (with_reducible repeat (first | refine bN ?_ _ | refine bD ?_ | refine bA ?_ _)); refine blk_put (cs := #[.string ((rd_T54 ((rd_T52 t104 x5_1).vars) x6_2).name), .int .i64 ((rd_T54 ((rd_T52 t104 x5_1).vars) x6_2).n), .int .i64 ((rd_T54 ((rd_T52 t104 x5_1).vars) x6_2).last), .bool false]) ?_ 3 _ rfl; (with_reducible repeat (first | refine bN ?_ _ | refine bD ?_ | refine bA ?_ _)); refine blk_put (cs := #[.string ((rd_T54 ((rd_T52 t104 x5_1).vars) x6_2).name), .int .i64 ((rd_T54 ((rd_T52 t104 x5_1).vars) x6_2).n), .int .i64 0, .bool false]) ?_ 2 _ rfl; (with_reducible repeat (first | refine bN ?_ _ | refine bD ?_ | refine bA ?_ _)); refine blk_put (cs := #[.string ((rd_T54 ((rd_T52 t104 x5_1).vars) x6_2).name), .int .i64 0, .int .i64 0, .bool false]) ?_ 1 _ rfl; (with_reducible repeat (first | refine bN ?_ _ | refine bD ?_ | refine bA ?_ _)); refine blk_put (cs := #[.string (⟨#[]⟩ : ByteArray), .int .i64 0, .int .i64 0, .bool false]) ?_ 0 _ rfl; (with_reducible repeat (first | refine bN ?_ _ | refine bD ?_ | refine bA ?_ _)); exact BK110.out⟩
      have n5_ : Aside0 (Below w.heap.size w ((((w19.setCell ⟨gb110, 0, none⟩ (.string ((rd_T54 ((rd_T52 t104 x5_1).vars) x6_2).name))).setCell ⟨gb110, 1, none⟩ (.int .i64 ((rd_T54 ((rd_T52 t104 x5_1).vars) x6_2).n))).setCell ⟨gb110, 2, none⟩ (.int .i64 ((rd_T54 ((rd_T52 t104 x5_1).vars) x6_2).last))).setCell ⟨gb110, 3, none⟩ (.bool (false)))) := ⟨by repeat (first | (with_reducible first | exact HB.out | apply lA | apply lN | apply lD | refine lS ?_ GE101.out | refine lS ?_ GE110.out) | exact HB.out)⟩
      (try clear HO_4)
      (try clear HL107_1)
      (try clear HL108_1)
      (try clear BK101)
      (try clear BK110)
      (try clear HB)
      generalize ((((w19.setCell ⟨gb110, 0, none⟩ (.string ((rd_T54 ((rd_T52 t104 x5_1).vars) x6_2).name))).setCell ⟨gb110, 1, none⟩ (.int .i64 ((rd_T54 ((rd_T52 t104 x5_1).vars) x6_2).n))).setCell ⟨gb110, 2, none⟩ (.int .i64 ((rd_T54 ((rd_T52 t104 x5_1).vars) x6_2).last))).setCell ⟨gb110, 3, none⟩ (.bool (false))) = w32 at n0_ n1_ n2_ n3_ n4_ n5_ ⊢
      have HO_4 := n0_
      have HL107_1 := n1_
      have HL108_1 := n2_
      have BK101 := n3_
      have BK110 := n4_
      have HB := n5_
      clear n0_ n1_ n2_ n3_ n4_ n5_
      replace HO_4 := am (Kd.S_drew HO_4.out)
      replace HL107_1 := am (Kd.R_drew HL107_1.out)
      replace HL108_1 := am (Kd.R_drew HL108_1.out)
      replace BK101 := am (blk_drew BK101.out)
      replace BK110 := am (blk_drew BK110.out)
      replace HB := am (below_drew1 HB.out)
      have p111 : 0 ≤ (x5_1 : Int) := of_decide_eq_true (by first | (with_reducible assumption) | assumption)
      have q111 : x5_1 < (t104.length : Int) := of_decide_eq_true (by first | (with_reducible assumption) | assumption)
      obtain ⟨ad111, A111_1, c111_1, e111, hx111_0, hx111_1, hl111_1, hi111_1⟩ := at_T52 (Kd.S_reads' HO_4.out).2.2 x5_1 p111 q111
      obtain rfl : ad107 = ad111 := (by injection e111)
      obtain ⟨ce111, hce111, hMe111, hcc111⟩ := Kd.S_get HO_4.out z52 x5_1 p111 (by first | exact q111 | exact of_decide_eq_true (by first | (with_reducible assumption) | assumption) | (have e_ := (Kd.S_reads' HO_4.out).1; omega))
      obtain ⟨ve111_1, rfl, ge111_1⟩ := k52_openM hMe111
      have hv111_1 := hcc111 1 _ rfl
      rw [add_field _ _ 1 (by omega)] at hv111_1
      replace hv111_1 := Option.some.inj (hv111_1.symm.trans hx111_1)
      rw [hv111_1] at ge111_1
      have HL111_1 := am (show Kd.R k54 54 _ _ _ _ ((rd_T52 t104 x5_1).vars) from ge111_1)
      clear hv111_1 ge111_1
      clear hcc111 hce111
      have HR111_1 := am hi111_1
      have HC111_1 := am hl111_1
      clear hi111_1 hl111_1
      replace p111 := eq_true p111
      replace q111 := eq_true q111
      refine start_ (n := 37) (S := fun w' => w'.cell? ⟨gb110, 0, none⟩ = some (.string ((rd_T54 ((rd_T52 t104 x5_1).vars) x6_2).name)) ∧ w'.cell? ⟨gb110, 1, none⟩ = some (.int .i64 ((rd_T54 ((rd_T52 t104 x5_1).vars) x6_2).n)) ∧ w'.cell? ⟨gb110, 2, none⟩ = some (.int .i64 ((rd_T54 ((rd_T52 t104 x5_1).vars) x6_2).last)) ∧ w'.cell? ⟨gb110, 3, none⟩ = some (.bool false) ∧ w'.cell? ⟨gb101, 0, none⟩ = some (.slice A0_0 l0_0.length c0_0) ∧ w'.cell? ⟨gb101, 1, none⟩ = some (.slice A0_1 l0_1.length c0_1) ∧ w'.cell? ⟨gb101, 2, none⟩ = some (.slice A0_2 l0_2.length c0_2) ∧ w'.cell? ⟨gb101, 3, none⟩ = some (.int .i64 a0_3) ∧ w'.cell? (ad107.add ((x5_1).toNat * 2)) = some (.int .i64 ((rd_T52 t104 x5_1).place)) ∧ w'.cell? ⟨(ad107.add ((x5_1).toNat * 2)).block, (ad107.add ((x5_1).toNat * 2)).off + 1, none⟩ = some (.slice A111_1 ((rd_T52 t104 x5_1).vars).length c111_1)) (ds := []) (bl 37 0) (by kernel_rfl) rfl rfl ⟨(blk_cell BK110.out 0).trans rfl, (blk_cell BK110.out 1).trans rfl, (blk_cell BK110.out 2).trans rfl, (blk_cell BK110.out 3).trans rfl, (blk_cell BK101.out 0).trans rfl, (blk_cell BK101.out 1).trans rfl, (blk_cell BK101.out 2).trans rfl, (blk_cell BK101.out 3).trans rfl, hx111_0, hx111_1⟩ (fun hHeld => ?_); refine with_tabW lambrequinlaw22_InterpReaches.tab12 lambrequinlaw22_InterpReaches.bits12 (fun HT_ HW_ => ?_)
      generalize w32.drew = w33 at HO_4 HL107_1 HL108_1 BK101 BK110 HB HL111_1 HR111_1 hx111_0 hx111_1 hHeld ⊢
      refine pure_ (i := 0) (N := some 46) (v := ?_) (a' := ?_) (bl 37 1) rfl rfl (any_of HT_.out (by kernel_rfl)) (fun _ _ _ h => h) (Or.inl ⟨by rfl, ?_⟩) ?_ ?_
      rotate_left
      ·intro w'
       go_simp
       with_reducible rfl
      rotate_left
      ·simp only [Act.put, sA, sZ, sS, i64_w, i32_w]
       rfl
      refine take_ (i := 1) (N := some 47) (v := ?_) (a' := ?_) (bl 37 3) rfl rfl (take_ofW HT_.out HW_.out (by kernel_rfl)) (fun _ _ _ h => h) (Or.inl ⟨by rfl, ?_⟩) hHeld ?_ ?_
      rotate_left
      ·rintro w' ⟨s0, s1, s2, s3, s4, s5, s6, s7, s8, s9⟩
       go_simp
       with_reducible rfl
      rotate_left
      ·simp only [Act.put, sA, sZ, sS, i64_w, i32_w]
       rfl
      refine pure_ (i := 2) (N := some 48) (v := ?_) (a' := ?_) (bl 37 7) rfl rfl (any_of HT_.out (by kernel_rfl)) (fun _ _ _ h => h) (Or.inl ⟨by rfl, ?_⟩) ?_ ?_
      rotate_left
      ·intro w'
       go_simp
       with_reducible rfl
      rotate_left
      ·simp only [Act.put, sA, sZ, sS, i64_w, i32_w]
       rfl
      refine pure_ (i := 3) (N := some 49) (v := ?_) (a' := ?_) (bl 37 15) rfl rfl (any_of HT_.out (by kernel_rfl)) (fun _ _ _ h => h) (Or.inl ⟨by rfl, ?_⟩) ?_ ?_
      rotate_left
      ·intro w'
       go_simp
       with_reducible rfl
      rotate_left
      ·simp only [Act.put, sA, sZ, sS, i64_w, i32_w]
       rfl
      refine pure_ (i := 4) (N := some 50) (v := ?_) (a' := ?_) (bl 37 31) rfl rfl (any_of HT_.out (by kernel_rfl)) (fun _ _ _ h => h) (Or.inl ⟨by rfl, ?_⟩) ?_ ?_
      rotate_left
      ·intro w'
       go_simp
       with_reducible rfl
      rotate_left
      ·simp only [Act.put, sA, sZ, sS, i64_w, i32_w]
       rfl
      refine pure_ (i := 6) (N := some 52) (v := ?_) (a' := ?_) (bl 37 95) rfl rfl (any_of HT_.out (by kernel_rfl)) (fun _ _ _ h => h) (Or.inl ⟨by rfl, ?_⟩) ?_ ?_
      rotate_left
      ·intro w'
       go_simp
       with_reducible rfl
      rotate_left
      ·simp only [Act.put, sA, sZ, sS, i64_w, i32_w]
       rfl
      refine pure_ (i := 7) (N := some 53) (v := ?_) (a' := ?_) (bl 37 223) rfl rfl (any_of HT_.out (by kernel_rfl)) (fun _ _ _ h => h) (Or.inl ⟨by rfl, ?_⟩) ?_ ?_
      rotate_left
      ·intro w'
       go_simp
       with_reducible rfl
      rotate_left
      ·simp only [Act.put, sA, sZ, sS, i64_w, i32_w]
       rfl
      refine pure_ (i := 8) (N := some 54) (v := ?_) (a' := ?_) (bl 37 479) rfl rfl (any_of HT_.out (by kernel_rfl)) (fun _ _ _ h => h) (Or.inl ⟨by rfl, ?_⟩) ?_ ?_
      rotate_left
      ·intro w'
       go_simp
       with_reducible rfl
      rotate_left
      ·simp only [Act.put, sA, sZ, sS, i64_w, i32_w]
       rfl
      refine pure_ (i := 9) (N := some 55) (v := ?_) (a' := ?_) (bl 37 991) rfl rfl (any_of HT_.out (by kernel_rfl)) (fun _ _ _ h => h) (Or.inl ⟨by rfl, ?_⟩) ?_ ?_
      rotate_left
      ·intro w'
       go_simp
       with_reducible rfl
      rotate_left
      ·simp only [Act.put, sA, sZ, sS, i64_w, i32_w]
       rfl
      refine pure_ (i := 11) (N := some 57) (v := ?_) (a' := ?_) (bl 37 3039) rfl rfl (any_of HT_.out (by kernel_rfl)) (fun _ _ _ h => h) (Or.inl ⟨by rfl, ?_⟩) ?_ ?_
      rotate_left
      ·intro w'
       go_simp
       with_reducible rfl
      rotate_left
      ·simp only [Act.put, sA, sZ, sS, i64_w, i32_w]
       rfl
      refine pure_ (i := 13) (N := some 59) (v := ?_) (a' := ?_) (bl 37 11231) rfl rfl (any_of HT_.out (by kernel_rfl)) (fun _ _ _ h => h) (Or.inl ⟨by rfl, ?_⟩) ?_ ?_
      rotate_left
      ·intro w'
       go_simp
       with_reducible rfl
      rotate_left
      ·simp only [Act.put, sA, sZ, sS, i64_w, i32_w]
       rfl
      refine take_ (i := 5) (N := some 51) (v := ?_) (a' := ?_) (bl 37 11263) rfl rfl (take_ofW HT_.out HW_.out (by kernel_rfl)) (fun _ _ _ h => h) (Or.inl ⟨by rfl, ?_⟩) hHeld ?_ ?_
      rotate_left
      ·rintro w' ⟨s0, s1, s2, s3, s4, s5, s6, s7, s8, s9⟩
       go_simp
       with_reducible rfl
      rotate_left
      ·simp only [Act.put, sA, sZ, sS, i64_w, i32_w]
       rfl
      refine take_ (i := 10) (N := some 56) (v := ?_) (a' := ?_) (bl 37 12287) rfl rfl (take_ofW HT_.out HW_.out (by kernel_rfl)) (fun _ _ _ h => h) (Or.inl ⟨by rfl, ?_⟩) hHeld ?_ ?_
      rotate_left
      ·rintro w' ⟨s0, s1, s2, s3, s4, s5, s6, s7, s8, s9⟩
       go_simp
       with_reducible rfl
      rotate_left
      ·simp only [Act.put, sA, sZ, sS, i64_w, i32_w]
       rfl
      refine take_ (i := 12) (N := some 58) (v := ?_) (a' := ?_) (bl 37 16383) rfl rfl (take_ofW HT_.out HW_.out (by kernel_rfl)) (fun _ _ _ h => h) (Or.inl ⟨by rfl, ?_⟩) hHeld ?_ ?_
      rotate_left
      ·rintro w' ⟨s0, s1, s2, s3, s4, s5, s6, s7, s8, s9⟩
       go_simp
       with_reducible rfl
      rotate_left
      ·simp only [Act.put, sA, sZ, sS, i64_w, i32_w]
       rfl
      refine take_ (i := 14) (N := some 60) (v := ?_) (a' := ?_) (bl 37 32767) rfl rfl (take_ofW HT_.out HW_.out (by kernel_rfl)) (fun _ _ _ h => h) (Or.inl ⟨by rfl, ?_⟩) hHeld ?_ ?_
      rotate_left
      ·rintro w' ⟨s0, s1, s2, s3, s4, s5, s6, s7, s8, s9⟩
       go_simp
       with_reducible rfl
      rotate_left
      ·simp only [Act.put, sA, sZ, sS, i64_w, i32_w]
       rfl
      refine one_ (i := 15) (N := some 61) (bl 37 65535) rfl rfl (one_of HT_.out (by kernel_rfl)) (by decide) (fun K hK => ?_)
      refine goes_ Try.func23 (by kernel_rfl) rfl #[.slice A0_0 l0_0.length c0_0, .int .i64 ((rd_T52 t104 x5_1).place), .string ((rd_T54 ((rd_T52 t104 x5_1).vars) x6_2).name), .int .i64 ((rd_T54 ((rd_T52 t104 x5_1).vars) x6_2).last)] (by rfl) rfl rfl (by (try simp only [List.map_toArray, List.map_cons, List.map_nil]); first | done | rfl | (simp only [List.length_drop, List.length_take]; rfl)) ?_
      with_reducible refine (cfg_Reaches.calls k2 _ _ l0_0 ((rd_T52 t104 x5_1).place) ((rd_T54 ((rd_T52 t104 x5_1).vars) x6_2).name) ((rd_T54 ((rd_T52 t104 x5_1).vars) x6_2).last) true _ ?side1 ?side2 A23.out).mono ?_
      (case side1 => repeat (first | exact (Kd.C_below HR0_0.out HB.out) | (with_reducible refine Kd.C_alloc ?_ _) | (with_reducible refine Kd.C_drewN ?_ _) | (with_reducible refine Kd.C_drew ?_)))
      (case side2 => exact HC0_0.out)
      rintro e w34 ⟨rfl, hb⟩
      have HS8_ := (hb.cell (blt_ (hHeld.2.2.2.2.2.2.2.2.1))).trans (hHeld.2.2.2.2.2.2.2.2.1)
      have HS9_ := (hb.cell (blt_ (hHeld.2.2.2.2.2.2.2.2.2))).trans (hHeld.2.2.2.2.2.2.2.2.2)
      refine ⟨_, rfl, ?_⟩
      replace HO_4 := am (Kd.S_below (by (with_reducible repeat (first | apply Kd.S_alloc | apply Kd.S_drewN | apply Kd.S_drew)); exact HO_4.out) hb)
      replace HL107_1 := am (Kd.R_below (by (with_reducible repeat (first | apply Ra | apply Rn | apply Rd)); exact HL107_1.out) hb)
      replace HL108_1 := am (Kd.R_below (by (with_reducible repeat (first | apply Ra | apply Rn | apply Rd)); exact HL108_1.out) hb)
      replace HL111_1 := am (Kd.R_below (by (with_reducible repeat (first | apply Ra | apply Rn | apply Rd)); exact HL111_1.out) hb)
      replace BK101 := am (blk_below (g := gb101) (o := .cells #[.slice A0_0 l0_0.length c0_0, .slice A0_1 l0_1.length c0_1, .slice A0_2 l0_2.length c0_2, .int .i64 a0_3] 43 (0, 0)) (by (with_reducible repeat (first | refine bN ?_ _ | refine bD ?_ | refine bA ?_ _)); exact BK101.out) hb)
      replace BK110 := am (blk_below (g := gb110) (o := .cells #[.string ((rd_T54 ((rd_T52 t104 x5_1).vars) x6_2).name), .int .i64 ((rd_T54 ((rd_T52 t104 x5_1).vars) x6_2).n), .int .i64 ((rd_T54 ((rd_T52 t104 x5_1).vars) x6_2).last), .bool false] 54 (0, 0)) (by (with_reducible repeat (first | refine bN ?_ _ | refine bD ?_ | refine bA ?_ _)); exact BK110.out) hb)
      replace HR111_1 := am (Kd.C_below (by first | (with_reducible exact HR111_1.out) | (with_reducible exact Kd.C_drewN HR111_1.out _) | (repeat (first | (with_reducible exact HR111_1.out) | (with_reducible refine Kd.C_alloc ?_ _) | (with_reducible refine Kd.C_drewN ?_ _) | (with_reducible refine Kd.C_drew ?_) | exact HR111_1.out))) hb)
      replace HB := am (below_step (by repeat (first | (with_reducible first | exact HB.out | apply lA | apply lN | apply lD | refine lS ?_ GE101.out | refine lS ?_ GE110.out) | exact HB.out)) hb)
      (try clear hb)
      (try clear hb2)
      (try clear hk)
      (try clear hi)
      refine hK.out _ _ ⟨(blk_cell BK110.out 0).trans rfl, (blk_cell BK110.out 1).trans rfl, (blk_cell BK110.out 2).trans rfl, (blk_cell BK110.out 3).trans rfl, (blk_cell BK101.out 0).trans rfl, (blk_cell BK101.out 1).trans rfl, (blk_cell BK101.out 2).trans rfl, (blk_cell BK101.out 3).trans rfl, HS8_, HS9_⟩ (fun hHeld => ?_)
      clear hK K
      refine norm_ (a' := ?_) ?_ ?_
      rotate_left
      ·show Act.put _ (some 61) _ = _
       simp only [Act.put, sA, sZ, sS, i64_w, i32_w]
       rfl
      refine pure_ (i := 16) (N := some 62) (v := ?_) (a' := ?_) (bl 37 131071) rfl rfl (any_of HT_.out (by kernel_rfl)) (fun _ _ _ h => h) (Or.inl ⟨by rfl, ?_⟩) ?_ ?_
      rotate_left
      ·intro w'
       go_simp
       with_reducible rfl
      rotate_left
      ·simp only [Act.put, sA, sZ, sS, i64_w, i32_w]
       rfl
      refine pure_ (i := 17) (N := some 63) (v := ?_) (a' := ?_) (bl 37 262143) rfl rfl (any_of HT_.out (by kernel_rfl)) (fun _ _ _ h => h) (Or.inl ⟨by rfl, ?_⟩) ?_ ?_
      rotate_left
      ·intro w'
       go_simp
       with_reducible rfl
      rotate_left
      ·simp only [Act.put, sA, sZ, sS, i64_w, i32_w]
       rfl
      refine pure_ (i := 18) (N := some 64) (v := ?_) (a' := ?_) (bl 37 524287) rfl rfl (any_of HT_.out (by kernel_rfl)) (fun _ _ _ h => h) (Or.inl ⟨by rfl, ?_⟩) ?_ ?_
      rotate_left
      ·intro w'
       go_simp
       with_reducible rfl
      rotate_left
      ·simp only [Act.put, sA, sZ, sS, i64_w, i32_w]
       rfl
      refine pure_ (i := 19) (N := some 65) (v := ?_) (a' := ?_) (bl 37 1048575) rfl rfl (any_of HT_.out (by kernel_rfl)) (fun _ _ _ h => h) (Or.inl ⟨by rfl, ?_⟩) ?_ ?_
      rotate_left
      ·intro w'
       go_simp
       with_reducible rfl
      rotate_left
      ·simp only [Act.put, sA, sZ, sS, i64_w, i32_w]
       rfl
      refine take_ (i := 20) (N := some 66) (v := ?_) (a' := ?_) (bl 37 2097151) rfl rfl (take_ofW HT_.out HW_.out (by kernel_rfl)) (fun _ _ _ h => h) (Or.inl ⟨by rfl, ?_⟩) hHeld ?_ ?_
      rotate_left
      ·rintro w' ⟨s0, s1, s2, s3, s4, s5, s6, s7, s8, s9⟩
       go_simp
       with_reducible rfl
      rotate_left
      ·simp only [Act.put, sA, sZ, sS, i64_w, i32_w]
       rfl
      refine pure_ (i := 21) (N := some 67) (v := ?_) (a' := ?_) (bl 37 4194303) rfl rfl (any_of HT_.out (by kernel_rfl)) (fun _ _ _ h => h) (Or.inl ⟨by rfl, ?_⟩) ?_ ?_
      rotate_left
      ·intro w'
       go_simp
       with_reducible rfl
      rotate_left
      ·simp only [Act.put, sA, sZ, sS, i64_w, i32_w]
       rfl
      refine pure_ (i := 22) (N := some 68) (v := ?_) (a' := ?_) (bl 37 8388607) rfl rfl (any_of HT_.out (by kernel_rfl)) (fun _ _ _ h => h) (Or.inl ⟨by rfl, ?_⟩) ?_ ?_
      rotate_left
      ·intro w'
       go_simp
       with_reducible rfl
      rotate_left
      ·simp only [Act.put, sA, sZ, sS, i64_w, i32_w]
       rfl
      refine pure_ (i := 23) (N := some 69) (v := ?_) (a' := ?_) (bl 37 16777215) rfl rfl (any_of HT_.out (by kernel_rfl)) (fun _ _ _ h => h) (Or.inl ⟨by rfl, ?_⟩) ?_ ?_
      rotate_left
      ·intro w'
       go_simp
       with_reducible rfl
      rotate_left
      ·simp only [Act.put, sA, sZ, sS, i64_w, i32_w]
       rfl
      refine take_ (i := 24) (N := some 70) (v := ?_) (a' := ?_) (bl 37 33554431) rfl rfl (take_ofW HT_.out HW_.out (by kernel_rfl)) (fun _ _ _ h => h) (Or.inl ⟨by rfl, ?_⟩) hHeld ?_ ?_
      rotate_left
      ·rintro w' ⟨s0, s1, s2, s3, s4, s5, s6, s7, s8, s9⟩
       go_simp
       with_reducible rfl
      rotate_left
      ·simp only [Act.put, sA, sZ, sS, i64_w, i32_w]
       rfl
      refine pure_ (i := 25) (N := some 71) (v := ?_) (a' := ?_) (bl 37 67108863) rfl rfl (any_of HT_.out (by kernel_rfl)) (fun _ _ _ h => h) (Or.inl ⟨by rfl, ?_⟩) ?_ ?_
      rotate_left
      ·intro w'
       go_simp
       with_reducible rfl
      rotate_left
      ·simp only [Act.put, sA, sZ, sS, i64_w, i32_w]
       rfl
      refine pure_ (i := 26) (N := some 72) (v := ?_) (a' := ?_) (bl 37 134217727) rfl rfl (any_of HT_.out (by kernel_rfl)) (fun _ _ _ h => h) (Or.inl ⟨by rfl, ?_⟩) ?_ ?_
      rotate_left
      ·intro w'
       go_simp
       with_reducible rfl
      rotate_left
      ·simp only [Act.put, sA, sZ, sS, i64_w, i32_w]
       rfl
      refine pure_ (i := 27) (N := some 73) (v := ?_) (a' := ?_) (bl 37 268435455) rfl rfl (any_of HT_.out (by kernel_rfl)) (fun _ _ _ h => h) (Or.inl ⟨by rfl, ?_⟩) ?_ ?_
      rotate_left
      ·intro w'
       go_simp
       with_reducible rfl
      rotate_left
      ·simp only [Act.put, sA, sZ, sS, i64_w, i32_w]
       rfl
      refine take_ (i := 28) (N := some 74) (v := ?_) (a' := ?_) (bl 37 536870911) rfl rfl (take_ofW HT_.out HW_.out (by kernel_rfl)) (fun _ _ _ h => h) (Or.inl ⟨by rfl, ?_⟩) hHeld ?_ ?_
      rotate_left
      ·rintro w' ⟨s0, s1, s2, s3, s4, s5, s6, s7, s8, s9⟩
       go_simp
       with_reducible rfl
      rotate_left
      ·simp only [Act.put, sA, sZ, sS, i64_w, i32_w]
       rfl
      refine pure_ (i := 29) (N := some 75) (v := ?_) (a' := ?_) (bl 37 1073741823) rfl rfl (any_of HT_.out (by kernel_rfl)) (fun _ _ _ h => h) (Or.inl ⟨by rfl, ?_⟩) ?_ ?_
      rotate_left
      ·intro w'
       go_simp
       with_reducible rfl
      rotate_left
      ·simp only [Act.put, sA, sZ, sS, i64_w, i32_w]
       rfl
      refine pure_ (i := 30) (N := some 76) (v := ?_) (a' := ?_) (bl 37 2147483647) rfl rfl (any_of HT_.out (by kernel_rfl)) (fun _ _ _ h => h) (Or.inl ⟨by rfl, ?_⟩) ?_ ?_
      rotate_left
      ·intro w'
       go_simp
       with_reducible rfl
      rotate_left
      ·simp only [Act.put, sA, sZ, sS, i64_w, i32_w]
       rfl
      refine pure_ (i := 31) (N := some 77) (v := ?_) (a' := ?_) (bl 37 4294967295) rfl rfl (any_of HT_.out (by kernel_rfl)) (fun _ _ _ h => h) (Or.inl ⟨by rfl, ?_⟩) ?_ ?_
      rotate_left
      ·intro w'
       go_simp
       with_reducible rfl
      rotate_left
      ·simp only [Act.put, sA, sZ, sS, i64_w, i32_w]
       rfl
      refine take_ (i := 32) (N := some 78) (v := ?_) (a' := ?_) (bl 37 8589934591) rfl rfl (take_ofW HT_.out HW_.out (by kernel_rfl)) (fun _ _ _ h => h) (Or.inl ⟨by rfl, ?_⟩) hHeld ?_ ?_
      rotate_left
      ·rintro w' ⟨s0, s1, s2, s3, s4, s5, s6, s7, s8, s9⟩
       go_simp
       with_reducible rfl
      rotate_left
      ·simp only [Act.put, sA, sZ, sS, i64_w, i32_w]
       rfl
      refine pure_ (i := 33) (N := some 79) (v := ?_) (a' := ?_) (bl 37 17179869183) rfl rfl (any_of HT_.out (by kernel_rfl)) (fun _ _ _ h => h) (Or.inl ⟨by rfl, ?_⟩) ?_ ?_
      rotate_left
      ·intro w'
       go_simp
       with_reducible rfl
      rotate_left
      ·simp only [Act.put, sA, sZ, sS, i64_w, i32_w]
       rfl
      refine pure_ (i := 34) (N := some 80) (v := ?_) (a' := ?_) (bl 37 34359738367) rfl rfl (any_of HT_.out (by kernel_rfl)) (fun _ _ _ h => h) (Or.inl ⟨by rfl, ?_⟩) ?_ ?_
      rotate_left
      ·intro w'
       go_simp
       with_reducible rfl
      rotate_left
      ·simp only [Act.put, sA, sZ, sS, i64_w, i32_w]
       rfl
      refine pure_ (i := 35) (N := some 81) (v := ?_) (a' := ?_) (bl 37 68719476735) rfl rfl (any_of HT_.out (by kernel_rfl)) (fun _ _ _ h => h) (Or.inl ⟨by rfl, ?_⟩) ?_ ?_
      rotate_left
      ·intro w'
       go_simp
       with_reducible rfl
      rotate_left
      ·simp only [Act.put, sA, sZ, sS, i64_w, i32_w]
       rfl
      refine pure_ (i := 36) (N := some 82) (v := ?_) (a' := ?_) (bl 37 137438953471) rfl rfl (any_of HT_.out (by kernel_rfl)) (fun _ _ _ h => h) (Or.inl ⟨by rfl, ?_⟩) ?_ ?_
      rotate_left
      ·intro w'
       go_simp
       with_reducible rfl
      rotate_left
      ·simp only [Act.put, sA, sZ, sS, i64_w, i32_w]
       rfl
      refine done_ (done_of HT_.out (by kernel_rfl)) ?_
      try go_wp2
      go_meet
      case rel => exact ⟨_, ((((rd_T54 ((rd_T52 t104 x5_1).vars) x6_2).last) != (-1))), (by first | rfl | (simp; done) | (simp [*]; done)), H', ⟨by have := HK1.out; have := HK2.out; first | omega | exact Nat.le_refl _⟩, ⟨by (with_reducible repeat (first | apply Kd.S_alloc | apply Kd.S_drewN | apply Kd.S_drew)); exact HO_4.out⟩, ⟨by (with_reducible repeat (first | refine bN ?_ _ | refine bD ?_ | refine bA ?_ _)); first | exact BK101.out | (rw [← Nbq27.out]; exact BK101.out) | (rw [← Nbq46.out]; exact BK101.out)⟩, ⟨by (with_reducible repeat (first | refine bN ?_ _ | refine bD ?_ | refine bA ?_ _)); first | exact BK110.out | (rw [← Nbq27.out]; exact BK110.out) | (rw [← Nbq46.out]; exact BK110.out)⟩, ⟨by repeat (first | (with_reducible first | exact HB.out | apply lA | apply lN | apply lD | refine lS ?_ GE101.out | refine lS ?_ GE110.out) | exact HB.out)⟩⟩
     case rest =>
      clear HC18
      try clear c1
      try clear p2
      try clear c4
      try clear c10
      try clear c44
      try clear c44b0
      try clear c45
      try clear c45b0
      try clear c45b1
      obtain ⟨kq, x82_17, rfl, HA, HJ17, HO_4, BK101, BK110, HB⟩ := hcut
      cases kq with
      | zero => exact absurd HA.out (by simp [lambrequinlaw22_InterpReaches.j2])
      | succ kj17 =>
       have H := HA.out
       clear HA
       simp only [lambrequinlaw22_InterpReaches.j2] at H
       by_cases c56 : x82_17 = true
       ·subst c56
        have H1 : (some false) = some r := by rw [if_pos rfl] at H; exact H
        clear H
        have H := H1
        clear H1
        obtain rfl := Option.some.inj H
        go_wp2
        go_ret
        exact ⟨by first | rfl | (simp [errW_none, errW_some] <;> rfl) | (simp [*, errW_none, errW_some] <;> rfl), by repeat (first | (with_reducible first | exact HB.out | apply lA | apply lN | apply lD | refine lS ?_ GE101.out | refine lS ?_ GE110.out) | exact HB.out)⟩
       replace c56 := Bool.eq_false_iff.mpr c56
       subst c56
       have H1 : (lambrequinlaw22_InterpReaches.l1 kj17 t102 t104 x5_1 (wrap64 (x6_2 + 1)) l0_0 l0_1 l0_2 a0_3) = some r := by rw [if_neg (show ¬ (false = true) by decide)] at H; exact H
       clear H
       have H := H1
       clear H1
       have H' := am H
       clear H
       go_wp2
       go_roundg kj17
       case measure => have := HK1.out; have := HK2.out; have := HJ17.out; omega
       case rel => exact ⟨(wrap64 (x6_2 + 1)), (by first | rfl | (simp; done) | (simp [*]; done)), H', ⟨by have := HK1.out; have := HK2.out; have := HJ17.out; omega⟩, ⟨by (with_reducible repeat (first | apply Kd.S_alloc | apply Kd.S_drewN | apply Kd.S_drew)); exact Kd.S_mono HO_4.out (fun _ hk => trivial)⟩, ⟨by (with_reducible repeat (first | refine bN ?_ _ | refine bD ?_ | refine bA ?_ _)); first | exact BK101.out | (rw [← Nbq27.out]; exact BK101.out) | (rw [← Nbq46.out]; exact BK101.out)⟩, ⟨by repeat (first | (with_reducible first | exact HB.out | apply lA | apply lN | apply lD | refine lS ?_ GE101.out | refine lS ?_ GE110.out) | exact HB.out)⟩⟩
end Go.Proofs.Ytnepgcbgkhikkaa.H
/- InterpReaches: who wrote a name last, on any trace, defines it, and reaches the statement; what never was written is 0. Conditions: the statement's own. -/
namespace Go.Proofs.Ytnepgcbgkhikkaa.H
open Go.RowKit Go.Proofs.YtnepgcbgkhikkaaW.PrintWords
set_option linter.unusedVariables false
set_option linter.unusedSimpArgs false
set_option linter.unusedSectionVars false
section
variable (l : List Stmt) (ins : List Int) (ora : List Bool) (most : Int) (s : St) (m : Nat) (hl : l.length ≤ 1000) (hm : m ≤ 1000) (hin : ∀ i, i < m → inS l (sN l s i)) (hok : ∀ i, i < m → (sN l s i).vs.length ≤ 10000 ∧ ∀ (j : Nat) v, (sN l s i).vs[j]? = some v → okV l (sN l s i).n v)
include hl hm hin hok
theorem Rc_l1 (i : Nat) (hi : i < m) (R : Bool) (go : Ev (fun n => lambrequinlaw22_InterpReaches.l0 n true (visN l s m) ((i + 1 : Nat) : Int) l ins ora most) R) : ∀ (r : List Var) (j : Nat), (sN l s i).vs.drop j = r →
    Ev (fun n => lambrequinlaw22_InterpReaches.l1 n true (visN l s m) i j l ins ora most) R
  | [], j, h => by
    have hv := (hok i hi).1
    refine Ev.step (fun k => by rw [lambrequinlaw22_InterpReaches.l1]) (Ev.pos (by omega) (Ev.pos (by rw [visN_len]; omega) ?_))
    rw [vis_at hi]
    have e1 : (visS (sN l s i)).vars = (sN l s i).vs := rfl
    rw [e1, wrap_up (n := i) (by omega)]
    exact Ev.neg (drop_end h) go
  | v :: r, j, h => by
    have hv := (hok i hi).1
    obtain ⟨h1, h2, h3, h4, h5⟩ := drop_more h (by omega)
    have ih := Rc_l1 i hi R go r (j + 1) h4
    have hvj : (sN l s i).vs[j]? = some v := by
      have := congrArg (fun z => z[0]?) h
      simpa using this
    obtain ⟨o1, o2⟩ := (hok i hi).2 j v hvj
    refine Ev.step (fun k => by rw [lambrequinlaw22_InterpReaches.l1]) (Ev.pos (by omega) (Ev.pos (by rw [visN_len]; omega) ?_))
    rw [vis_at hi]
    have e1 : (visS (sN l s i)).vars = (sN l s i).vs := rfl
    have e2 : (visS (sN l s i)).place = (sN l s i).n := rfl
    rw [e1, e2]
    refine Ev.pos h1 (Ev.pos h2 ?_)
    rw [show rd_T54 (sN l s i).vs j = v from h3 _]
    have fin : Ev (fun k => lambrequinlaw22_InterpReaches.j2 k true (visN l s m) i j false l ins ora most) R := by
      refine Ev.step (fun k => by rw [lambrequinlaw22_InterpReaches.j2]) (Ev.neg (by simp) ?_)
      rw [h5]
      exact ih
    by_cases c : v.last ≥ 0
    · refine Ev.pos c (Ev.bind (ev_yes (Reaches_ev l (sN l s i).n v.name v.last hl) (o2 c)) (Ev.pos rfl (Ev.neg (by omega) fin)))
    · obtain ⟨p1, p2, p3⟩ := o1 (by omega)
      refine Ev.neg c (Ev.pos (by omega) (Ev.pos p1 (Ev.neg (by rw [p2]; simp) ?_)))
      rw [show (v.last != -1) = false by simp [p3]]
      exact fin
theorem Rc_l0 : ∀ (d i : Nat), i + d = m → Ev (fun n => lambrequinlaw22_InterpReaches.l0 n true (visN l s m) i l ins ora most) true
  | 0, i, hd => by
    exact Ev.step (fun k => by rw [lambrequinlaw22_InterpReaches.l0]) (Ev.neg (by rw [visN_len]; omega) (Ev.now _))
  | d + 1, i, hd => by
    refine Ev.step (fun k => by rw [lambrequinlaw22_InterpReaches.l0]) (Ev.pos (by rw [visN_len]; omega) ?_)
    exact Rc_l1 l ins ora most s m hl hm hin hok i (by omega) true (Rc_l0 d (i + 1) (by omega)) (sN l s i).vs 0 rfl
end
theorem InterpReaches_pure (x0 : Script) (n1 : x0.l.length ≤ 9223372036854775807) (n2 : x0.ins.length ≤ 9223372036854775807) (n3 : x0.ora.length ≤ 9223372036854775807) : ∃ k, lambrequinlaw22_InterpReaches.f k x0.l x0.ins x0.ora x0.most = some true := by
  obtain ⟨l, ins, ora, most⟩ := x0
  refine Ev.rounds (g := fun k => lambrequinlaw22_InterpReaches.f k l ins ora most) ?_
  unfold lambrequinlaw22_InterpReaches.f
  refine Ev.pure shown22 (Ev.pure (few_eq l ins ora most) ?_)
  by_cases hf : l.length ≤ 25 ∧ most ≤ 60
  case neg => exact Ev.neg (by simpa using hf) (Ev.now _)
  refine Ev.pos (by simpa using hf) ?_
  obtain ⟨m, hr, hin, hm, hout⟩ := Run_spec l ins ora most (by omega)
  refine Ev.pure hr ?_
  rw [mostV_small (by omega)] at hm
  refine Rc_l0 l ins ora most (s0 l ins ora) m (by omega) (by omega) hin (fun i hi => ⟨?_, okV_all (names_s0 l ins ora) (okV_s0 l ins ora) i (fun j hj => hin j (by omega))⟩) m 0 (by omega)
  have := congrArg List.length (names_sN (names_s0 l ins ora) i (fun j hj => hin j (by omega)))
  have hn := names_len l
  rw [List.length_map] at this
  unfold nmsV at this
  omega
theorem InterpReaches_walk (w : World) (x0 : Script) (A0_0 : Option Addr) (c0_0 : Nat) (l0_0 : x0.l.length ≤ c0_0) (g0_0 : Kd.C k30 w A0_0 x0.l.length x0.l) (A0_1 : Option Addr) (c0_1 : Nat) (l0_1 : x0.ins.length ≤ c0_1) (g0_1 : Kd.C (Kd.int .i64) w A0_1 x0.ins.length x0.ins) (A0_2 : Option Addr) (c0_2 : Nat) (l0_2 : x0.ora.length ≤ c0_2) (g0_2 : Kd.C Kd.bool w A0_2 x0.ora.length x0.ora) :
    Calls Try.prog 14 #[.agg #[.slice A0_0 x0.l.length c0_0, .slice A0_1 x0.ins.length c0_1, .slice A0_2 x0.ora.length c0_2, .int .i64 x0.most]] w fun e w' => e = .returned (.bool true) ∧ Below w.heap.size w w' := by
  obtain ⟨k, h⟩ := InterpReaches_pure x0 g0_0.2.1 g0_1.2.1 g0_2.2.1
  exact (lambrequinlaw22_InterpReaches.calls k A0_0 c0_0 x0.l A0_1 c0_1 x0.ins A0_2 c0_2 x0.ora x0.most true w g0_0 l0_0 g0_1 l0_1 g0_2 l0_2 h).mono (fun e w' h' => ⟨h'.1, h'.2⟩)
end Go.Proofs.Ytnepgcbgkhikkaa.H
namespace Go.Proofs.Ytnepgcbgkhikkaa.H
open Go.RowKit Go.Proofs.YtnepgcbgkhikkaaW.PrintWords
set_option linter.unusedVariables false
/-- no longer than the model's longest text -/
def bStr (s : ByteArray) : Prop := s.size ≤ 9223372036854775807
/-- What an argument of a type holds, read as the kind kd; B: how long its texts are. -/
structure Opens {α : Type} (P : Program) (t : TypeId) (kd : Kd α) (B : α → Prop) : Prop where
  size : P.cellsOf t = kd.sz
  opened : ∀ {H : Type} {enc : TypeId × Value → H} {w : World} {base : Nat} {sp : Nat → Bool} {held : Bool} {fuel : Nat} {cs : List Value} {x : DataW H × List MemPlace},
    DataW.trod enc P w base sp held fuel t cs = some x → ∃ a, kd.K w a cs ∧ B a
theorem Opens.as {α : Type} {P : Program} {t : TypeId} {kd : Kd α} {B B' : α → Prop} (h : Opens P t kd B) (hB : ∀ a, B a → B' a) : Opens P t kd B' :=
  ⟨h.size, fun hx => by obtain ⟨a, ha, hb⟩ := h.opened hx; exact ⟨a, ha, hB a hb⟩⟩
theorem opens_bool {P : Program} {t : TypeId} (ht : P.underlying t = some .bool) (hs : P.cellsOf t = 1) : Opens P t Kd.bool (fun _ => True) :=
  ⟨hs, fun h => by obtain ⟨b, rfl, _⟩ := DataW.trod_bool ht h; exact ⟨b, rfl, trivial⟩⟩
theorem opens_int {P : Program} {t : TypeId} {k : IntKind} (ht : P.underlying t = some (.int k)) (hs : P.cellsOf t = 1) : Opens P t (Kd.int k) (fun _ => True) :=
  ⟨hs, fun h => by obtain ⟨b, rfl, _⟩ := DataW.trod_int ht h; exact ⟨b, rfl, trivial⟩⟩
theorem opens_string {P : Program} {t : TypeId} (ht : P.underlying t = some .string) (hs : P.cellsOf t = 1) : Opens P t Kd.string bStr :=
  ⟨hs, fun h => by obtain ⟨b, rfl, _, hb⟩ := DataW.trod_string ht h; exact ⟨b, rfl, hb⟩⟩
theorem list_of {α : Type} (p : Nat → α → Prop) : ∀ n : Nat, (∀ i, i < n → ∃ y, p i y) → ∃ l : List α, l.length = n ∧ ∀ i y, l[i]? = some y → p i y
  | 0, _ => ⟨[], rfl, fun i y h => by simp at h⟩
  | n + 1, h => by
    obtain ⟨l, hl, hp⟩ := list_of p n (fun i hi => h i (by omega))
    obtain ⟨y, hy⟩ := h n (by omega)
    refine ⟨l ++ [y], by simp [hl], fun i z hz => ?_⟩
    rcases Nat.lt_trichotomy i n with hi | rfl | hi
    · rw [List.getElem?_append_left (by omega)] at hz
      exact hp i z hz
    · rw [List.getElem?_append_right (by omega), hl, Nat.sub_self] at hz
      simp at hz
      subst hz
      exact hy
    · rw [List.getElem?_eq_none (by simp [hl]; omega)] at hz
      simp at hz
theorem addr_add_add (a : Addr) (i j : Nat) : (a.add i).add j = a.add (i + j) := by
  unfold Addr.add
  by_cases hi : i = 0 <;> by_cases hj : j = 0 <;> simp [hi, hj, Nat.add_assoc]
theorem opens_slice {α : Type} {P : Program} {t e : TypeId} {kd : Kd α} {B : α → Prop} (ht : P.underlying t = some (.slice e)) (hs : P.cellsOf t = 1) (he : Opens P e kd B) (q : Nat) : Opens P t (Kd.slice q kd) (fun l => l.length ≤ 9223372036854775807 ∧ ∀ y ∈ l, B y) := by
  refine ⟨hs, fun {H enc w base sp held fuel cs x} h => ?_⟩
  rcases DataW.trod_slice ht h with ⟨rfl, _⟩ | ⟨a, len, cap, elems, rest, n, _, rfl, _, _, hl, hm, hlen, hel, _⟩
  · exact ⟨[], ⟨none, 0, rfl, Nat.le_refl _, rfl, by simp, fun h => absurd h (by simp)⟩, by simp, by simp⟩
  · obtain ⟨l, hll, hp⟩ := list_of (fun i y => B y ∧ ∃ c, c.length = kd.sz ∧ kd.K w y c ∧ ∀ j u, c[j]? = some u → w.cell? (a.add (i * kd.sz + j)) = some u) len (fun i hi => by
      have h1 := hel i hi
      rw [List.getElem?_eq_getElem (by omega)] at h1
      obtain ⟨cs', h2, h3⟩ := Option.bind_eq_some_iff.1 h1
      obtain ⟨y, hy, hby⟩ := he.opened h3
      obtain ⟨_, h4, h5⟩ := World.cells?_some h2
      refine ⟨y, hby, cs', by rw [h4, he.size], hy, fun j u hu => ?_⟩
      have hj : j < P.cellsOf e := by rw [← h4]; exact (List.getElem?_eq_some_iff.1 hu).1
      rw [← addr_add_add, ← he.size, h5 j hj, hu])
    subst hll
    refine ⟨l, ⟨some a, cap, rfl, hl, rfl, Nat.le_trans hl (Nat.le_trans hm (by decide)), fun _ => ⟨a, rfl, fun j p hj => (hp j p hj).2⟩⟩, Nat.le_trans hl (Nat.le_trans hm (by decide)), fun y hy => ?_⟩
    obtain ⟨i, hi, rfl⟩ := List.mem_iff_getElem.1 hy
    exact (hp i _ (List.getElem?_eq_getElem hi)).1
theorem opens_iso {α β : Type} {P : Program} {t : TypeId} {kd : Kd α} {B : α → Prop} (h : Opens P t kd B) (f : β → α) (hf : ∀ b, ∃ a, f a = b) : Opens P t (Kd.iso kd f) (fun b => B (f b)) :=
  ⟨h.size, fun hx => by obtain ⟨a, ha⟩ := h.opened hx; obtain ⟨b, rfl⟩ := hf a; exact ⟨b, ha⟩⟩
/-- The fields of a struct from the offset o on. -/
structure OpensL {α : Type} (P : Program) (fs : List Field) (o : Nat) (kd : Kd α) (B : α → Prop) : Prop where
  opened : ∀ {H : Type} {enc : TypeId × Value → H} {w : World} {base : Nat} {sp : Nat → Bool} {held : Bool} {fuel : Nat} (cs : List Value), cs.length = o + kd.sz →
    (∀ f ∈ fs, ∃ x, DataW.trod enc P w base sp held fuel f.type ((cs.drop f.offset).take (P.cellsOf f.type)) = some x) → ∃ a, kd.K w a (cs.drop o) ∧ B a
theorem opensL_one {α : Type} {P : Program} {f : Field} {o : Nat} {kd : Kd α} {B : α → Prop} (ho : f.offset = o) (h : Opens P f.type kd B) : OpensL P [f] o kd B := by
  refine ⟨fun {H enc w base sp held fuel} cs hcs hf => ?_⟩
  obtain ⟨x, hx⟩ := hf f (by simp)
  obtain ⟨a, ha, hb⟩ := h.opened hx
  rw [ho, h.size, List.take_of_length_le (by simp [hcs])] at ha
  exact ⟨a, ha, hb⟩
theorem opensL_cons {α β : Type} {P : Program} {f : Field} {fs : List Field} {o : Nat} {kd : Kd α} {kd' : Kd β} {B : α → Prop} {B' : β → Prop} (ho : f.offset = o) (h : Opens P f.type kd B) (hr : OpensL P fs (o + kd.sz) kd' B') : OpensL P (f :: fs) o (Kd.pair kd kd') (fun p => B p.1 ∧ B' p.2) := by
  refine ⟨fun {H enc w base sp held fuel} cs hcs hf => ?_⟩
  obtain ⟨x, hx⟩ := hf f (by simp)
  obtain ⟨a, ha, hba⟩ := h.opened hx
  have hcs' : cs.length = o + kd.sz + kd'.sz := by rw [hcs]; show o + (kd.sz + kd'.sz) = _; omega
  obtain ⟨b, hb, hbb⟩ := hr.opened cs hcs' (fun g hg => hf g (by simp [hg]))
  rw [ho, h.size] at ha
  refine ⟨(a, b), ⟨(cs.drop o).take kd.sz, (cs.drop (o + kd.sz)), ?_, ha, hb⟩, hba, hbb⟩
  rw [← List.drop_drop, List.take_append_drop]
theorem opens_struct {α : Type} {P : Program} {t : TypeId} {fs : List Field} {kd : Kd α} {B : α → Prop} (ht : P.underlying t = some (.struct ⟨fs⟩)) (hs : P.cellsOf t = kd.sz) (h : OpensL P fs 0 kd B) : Opens P t kd B := by
  refine ⟨hs, fun {H enc w base sp held fuel cs x} hx => ?_⟩
  obtain ⟨xs, n, _, _, hl, hlen, hf⟩ := DataW.trod_struct ht hx
  obtain ⟨a, ha, hb⟩ := h.opened (enc := enc) (w := w) (base := base) (sp := sp) (held := held) (fuel := n) cs (by rw [hl, hs]; omega) (fun f hfm => by
    obtain ⟨i, hi, rfl⟩ := List.mem_iff_getElem.1 hfm
    have h1 := hf i fs[i] (by simp [hi])
    exact ⟨xs[i]'(by rw [hlen]; simpa using hi), by rw [h1, List.getElem?_eq_getElem]⟩)
  exact ⟨a, by simpa using ha, hb⟩
theorem opens_isoL {α β : Type} {P : Program} {fs : List Field} {o : Nat} {kd : Kd α} {B : α → Prop} (h : OpensL P fs o kd B) (f : β → α) (hf : ∀ b, ∃ a, f a = b) : OpensL P fs o (Kd.iso kd f) (fun b => B (f b)) := by
  refine ⟨fun {H enc w base sp held fuel} cs hcs hx => ?_⟩
  obtain ⟨a, ha⟩ := h.opened cs hcs hx
  obtain ⟨b, rfl⟩ := hf a
  exact ⟨b, ha⟩
/-- an argument's value, opened -/
theorem Opens.argB {α : Type} {P : Program} {t : TypeId} {kd : Kd α} {B : α → Prop} (h : Opens P t kd B) {H : Type} {enc : TypeId × Value → H} {w : World} {base : Nat} {sp : Nat → Bool} {held : Bool} {v : Value} {d : DataW H} {ps : List MemPlace}
    (hv : DataW.Trod enc P w base sp held t v d ps) : ∃ a, kd.K w a v.cells.toList ∧ B a := by
  obtain ⟨fuel, hf⟩ := hv
  exact h.opened hf
theorem Opens.arg {α : Type} {P : Program} {t : TypeId} {kd : Kd α} {B : α → Prop} (h : Opens P t kd B) {H : Type} {enc : TypeId × Value → H} {w : World} {base : Nat} {sp : Nat → Bool} {held : Bool} {v : Value} {d : DataW H} {ps : List MemPlace}
    (hv : DataW.Trod enc P w base sp held t v d ps) : ∃ a, kd.K w a v.cells.toList := by
  obtain ⟨a, ha, _⟩ := h.argB hv
  exact ⟨a, ha⟩
/-- An argument's row is no longer than its weight allows. -/
theorem sized_row {H : Type} {enc : TypeId × Value → H} {P : Program} {W : World} {base : Nat} {spare : Nat → Bool} {held : Bool} {t e : TypeId} {a : Option Addr} {len cap : Nat} {d : DataW H} {ps : List MemPlace} {ts : List TypeId} {ds : List (DataW H)} {j : Nat}
    (hsz : (DataW.weightsEach P ts ds).all (· ≤ reachBytes) = true) (ht : ts[j]? = some t) (hd : ds[j]? = some d) (hu : P.underlying t = some (.slice e)) {B : Nat} (hB : P.bytesOf e = B)
    (h : DataW.Trod enc P W base spare held t (.slice a len cap) d ps) : len * B ≤ 140737488351232 := by
  obtain ⟨fuel, hf⟩ := h
  rcases DataW.trod_slice hu hf with ⟨hcs, _⟩ | ⟨x, l, c, elems, rest, n, _, hcs, hx, _, hl, _, hlen, _⟩
  · simp [Value.cells] at hcs
    obtain ⟨rfl, rfl, rfl⟩ := hcs
    simp
  · simp [Value.cells] at hcs
    obtain ⟨rfl, rfl, rfl⟩ := hcs
    obtain ⟨rfl, _⟩ := Prod.mk.inj hx
    have z := sized_slice hsz ht hd hu
    rw [hB, List.length_map, List.length_map, hlen] at z
    exact Nat.le_trans (Nat.mul_le_mul_right _ (Nat.le_add_right _ _)) z
def bStmt (x : Stmt) : Prop := True ∧ bStr (x.x) ∧ bStr (x.y) ∧ bStr (x.z) ∧ bStr (x.op) ∧ True ∧ True ∧ True
theorem opens_Stmt : Opens Try.prog 30 k30 bStmt :=
  Opens.as (opens_struct Try.underlying30 (by kernel_rfl) (opens_isoL (opensL_cons rfl (opens_int (by kernel_rfl) (by kernel_rfl)) (opensL_cons rfl (opens_string (by kernel_rfl) (by kernel_rfl)) (opensL_cons rfl (opens_string (by kernel_rfl) (by kernel_rfl)) (opensL_cons rfl (opens_string (by kernel_rfl) (by kernel_rfl)) (opensL_cons rfl (opens_string (by kernel_rfl) (by kernel_rfl)) (opensL_cons rfl (opens_int (by kernel_rfl) (by kernel_rfl)) (opensL_cons rfl (opens_int (by kernel_rfl) (by kernel_rfl)) (opensL_one rfl (opens_int (by kernel_rfl) (by kernel_rfl)))))))))) _ (fun b => ⟨⟨b.1, b.2.1, b.2.2.1, b.2.2.2.1, b.2.2.2.2.1, b.2.2.2.2.2.1, b.2.2.2.2.2.2.1, b.2.2.2.2.2.2.2⟩, rfl⟩))) (fun _ h => h)
def bVar (x : Var) : Prop := bStr (x.name) ∧ True ∧ True ∧ True
theorem opens_Var : Opens Try.prog 54 k54 bVar :=
  Opens.as (opens_struct Try.underlying54 (by kernel_rfl) (opens_isoL (opensL_cons rfl (opens_string (by kernel_rfl) (by kernel_rfl)) (opensL_cons rfl (opens_int (by kernel_rfl) (by kernel_rfl)) (opensL_cons rfl (opens_int (by kernel_rfl) (by kernel_rfl)) (opensL_one rfl (opens_bool (by kernel_rfl) (by kernel_rfl)))))) _ (fun b => ⟨⟨b.1, b.2.1, b.2.2.1, b.2.2.2⟩, rfl⟩))) (fun _ h => h)
def bVisit (x : Visit) : Prop := True ∧ (x.vars.length ≤ 9223372036854775807 ∧ ∀ y ∈ x.vars, bVar (y))
theorem opens_Visit : Opens Try.prog 52 k52 bVisit :=
  Opens.as (opens_struct Try.underlying52 (by kernel_rfl) (opens_isoL (opensL_cons rfl (opens_int (by kernel_rfl) (by kernel_rfl)) (opensL_one rfl (opens_slice (by kernel_rfl) (by kernel_rfl) opens_Var 54))) _ (fun b => ⟨⟨b.1, b.2⟩, rfl⟩))) (fun _ h => h)
def bScript (x : Script) : Prop := (x.l.length ≤ 9223372036854775807 ∧ ∀ y ∈ x.l, bStmt (y)) ∧ (x.ins.length ≤ 9223372036854775807 ∧ ∀ y ∈ x.ins, True) ∧ (x.ora.length ≤ 9223372036854775807 ∧ ∀ y ∈ x.ora, True) ∧ True
theorem opens_Script : Opens Try.prog 43 k43 bScript :=
  Opens.as (opens_struct Try.underlying43 (by kernel_rfl) (opens_isoL (opensL_cons rfl (opens_slice (by kernel_rfl) (by kernel_rfl) opens_Stmt 30) (opensL_cons rfl (opens_slice (by kernel_rfl) (by kernel_rfl) (opens_int (t := 2) (by kernel_rfl) (by kernel_rfl)) 2) (opensL_cons rfl (opens_slice (by kernel_rfl) (by kernel_rfl) (opens_bool (t := 4) (by kernel_rfl) (by kernel_rfl)) 4) (opensL_one rfl (opens_int (by kernel_rfl) (by kernel_rfl)))))) _ (fun b => ⟨⟨b.1, b.2.1, b.2.2.1, b.2.2.2⟩, rfl⟩))) (fun _ h => h)
def bRVar (x : RVar) : Prop := bStr (x.name) ∧ True ∧ True ∧ True
theorem opens_RVar : Opens Try.prog 68 k68 bRVar :=
  Opens.as (opens_struct Try.underlying68 (by kernel_rfl) (opens_isoL (opensL_cons rfl (opens_string (by kernel_rfl) (by kernel_rfl)) (opensL_cons rfl (opens_int (by kernel_rfl) (by kernel_rfl)) (opensL_cons rfl (opens_int (by kernel_rfl) (by kernel_rfl)) (opensL_one rfl (opens_bool (by kernel_rfl) (by kernel_rfl)))))) _ (fun b => ⟨⟨b.1, b.2.1, b.2.2.1, b.2.2.2⟩, rfl⟩))) (fun _ h => h)
def bRVisit (x : RVisit) : Prop := True ∧ (x.vars.length ≤ 9223372036854775807 ∧ ∀ y ∈ x.vars, bRVar (y))
theorem opens_RVisit : Opens Try.prog 67 k67 bRVisit :=
  Opens.as (opens_struct Try.underlying67 (by kernel_rfl) (opens_isoL (opensL_cons rfl (opens_int (by kernel_rfl) (by kernel_rfl)) (opensL_one rfl (opens_slice (by kernel_rfl) (by kernel_rfl) opens_RVar 68))) _ (fun b => ⟨⟨b.1, b.2⟩, rfl⟩))) (fun _ h => h)
def bRState (x : RState) : Prop := True ∧ (x.vars.length ≤ 9223372036854775807 ∧ ∀ y ∈ x.vars, bRVar (y)) ∧ (x.ins.length ≤ 9223372036854775807 ∧ ∀ y ∈ x.ins, True) ∧ (x.ora.length ≤ 9223372036854775807 ∧ ∀ y ∈ x.ora, True)
theorem opens_RState : Opens Try.prog 77 k77 bRState :=
  Opens.as (opens_struct Try.underlying77 (by kernel_rfl) (opens_isoL (opensL_cons rfl (opens_int (by kernel_rfl) (by kernel_rfl)) (opensL_cons rfl (opens_slice (by kernel_rfl) (by kernel_rfl) opens_RVar 68) (opensL_cons rfl (opens_slice (by kernel_rfl) (by kernel_rfl) (opens_int (t := 2) (by kernel_rfl) (by kernel_rfl)) 2) (opensL_one rfl (opens_slice (by kernel_rfl) (by kernel_rfl) (opens_bool (t := 4) (by kernel_rfl) (by kernel_rfl)) 4))))) _ (fun b => ⟨⟨b.1, b.2.1, b.2.2.1, b.2.2.2⟩, rfl⟩))) (fun _ h => h)
end Go.Proofs.Ytnepgcbgkhikkaa.H

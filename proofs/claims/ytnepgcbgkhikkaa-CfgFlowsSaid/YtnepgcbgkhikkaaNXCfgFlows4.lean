/- RowCfgFlows of the seat's law CfgFlows: the law holds, under the statement's own conditions. -/
import Derived.Test.YtnepgcbgkhikkaaNXCfgFlows
import Derived.Test.YtnepgcbgkhikkaaNXCfgFlows2
import Derived.Test.YtnepgcbgkhikkaaNXCfgFlows3
import Derived.Deep.DeepMust
set_option linter.unusedVariables false
set_option linter.unusedSimpArgs false
set_option linter.unusedSectionVars false
namespace Go.Proofs.Ytnepgcbgkhikkaa.H
open Go.RowKit Go.Proofs.YtnepgcbgkhikkaaW.PrintWords Go.Proofs.YtnepgcbgkhikkaaW.PrintLast Go.Proofs.YtnepgcbgkhikkaaW.PrintMore
attribute [local go_sem] max2_int min2_int max_two min_two max_three min_three max_four min_four
mutual
def lambrequinref20_behind.l0 : Nat → List ByteArray → List Bool → List Bool → Int → Int → ByteArray → ByteArray → ByteArray → ByteArray → Int → Int → Int → Option (List Bool)
 | 0, _, _, _, _, _, _, _, _, _, _, _, _ => none
 | k + 1, x1, x2, x7, x8, x102000, x102001, x102002, x102003, x102004, x102005, x102006, x102007 => if x8 < (x1.length : Int) then (if 0 ≤ x8 then ((lambrequinref20_Defines.f x102000 x102001 x102002 x102003 x102004 x102005 x102006 x102007 (rdOf ByteArray.empty x1 x8)).bind fun t109 => (if t109 = true then (if x8 < (x7.length : Int) then (lambrequinref20_behind.l1 k x1 x2 (x7.set (x8 : Int).toNat (x102000 == 4)) x8 0 x102000 x102001 x102002 x102003 x102004 x102005 x102006 x102007) else (none)) else (lambrequinref20_behind.l0 k x1 x2 x7 (wrap64 (x8 + 1)) x102000 x102001 x102002 x102003 x102004 x102005 x102006 x102007))) else (none)) else (some x7)
def lambrequinref20_behind.l1 : Nat → List ByteArray → List Bool → List Bool → Int → Int → Int → ByteArray → ByteArray → ByteArray → ByteArray → Int → Int → Int → Option (List Bool)
 | 0, _, _, _, _, _, _, _, _, _, _, _, _, _ => none
 | k + 1, x1, x2, x7, x8, x9, x102000, x102001, x102002, x102003, x102004, x102005, x102006, x102007 => if x9 < (x1.length : Int) then (if x102000 = 2 then (lambrequinref20_behind.j2 k x1 x2 x7 x8 x9 true x102000 x102001 x102002 x102003 x102004 x102005 x102006 x102007) else (lambrequinref20_behind.j2 k x1 x2 x7 x8 x9 (x102000 == 3) x102000 x102001 x102002 x102003 x102004 x102005 x102006 x102007)) else (lambrequinref20_behind.j2 k x1 x2 x7 x8 x9 false x102000 x102001 x102002 x102003 x102004 x102005 x102006 x102007)
def lambrequinref20_behind.j2 : Nat → List ByteArray → List Bool → List Bool → Int → Int → Bool → Int → ByteArray → ByteArray → ByteArray → ByteArray → Int → Int → Int → Option (List Bool)
 | 0, _, _, _, _, _, _, _, _, _, _, _, _, _, _ => none
 | k + 1, x1, x2, x7, x8, x9, x45, x102000, x102001, x102002, x102003, x102004, x102005, x102006, x102007 => if x45 = true then (if 0 ≤ x8 then (if x8 < (x7.length : Int) then (if rdOf false x7 x8 = true then (lambrequinref20_behind.l1 k x1 x2 (x7.set (x8 : Int).toNat true) x8 (wrap64 (x9 + 1)) x102000 x102001 x102002 x102003 x102004 x102005 x102006 x102007) else (if 0 ≤ x9 then (if x9 < (x2.length : Int) then (if rdOf false x2 x9 = true then ((lambrequinref20_Uses.f k x102000 x102001 x102002 x102003 x102004 x102005 x102006 x102007).bind fun t114 => (if x9 < (x1.length : Int) then ((lambrequinref09_In.f k t114 (rdOf ByteArray.empty x1 x9)).bind fun t118 => (lambrequinref20_behind.l1 k x1 x2 (x7.set (x8 : Int).toNat t118) x8 (wrap64 (x9 + 1)) x102000 x102001 x102002 x102003 x102004 x102005 x102006 x102007)) else (none))) else (lambrequinref20_behind.l1 k x1 x2 (x7.set (x8 : Int).toNat false) x8 (wrap64 (x9 + 1)) x102000 x102001 x102002 x102003 x102004 x102005 x102006 x102007)) else (none)) else (none))) else (none)) else (none)) else (lambrequinref20_behind.l0 k x1 x2 x7 (wrap64 (x8 + 1)) x102000 x102001 x102002 x102003 x102004 x102005 x102006 x102007)
end
def lambrequinref20_behind.f (k : Nat) (a0_0 : Int) (a0_1 : ByteArray) (a0_2 : ByteArray) (a0_3 : ByteArray) (a0_4 : ByteArray) (a0_5 : Int) (a0_6 : Int) (a0_7 : Int) (l1 : List ByteArray) (l2 : List Bool) : Option (List Bool) := (some (([] : List Bool) : List Bool)).bind fun y102 => (if y102.length + l2.length < 140737488355328 then (lambrequinref20_behind.l0 k l1 l2 (y102 ++ l2) 0 a0_0 a0_1 a0_2 a0_3 a0_4 a0_5 a0_6 a0_7) else (none))
theorem lambrequinref20_behind.mono_l : ∀ k, (∀ y0 y1 y2 y3 y4 y5 y6 y7 y8 y9 y10 y11, LeO (lambrequinref20_behind.l0 k y0 y1 y2 y3 y4 y5 y6 y7 y8 y9 y10 y11) (lambrequinref20_behind.l0 (k + 1) y0 y1 y2 y3 y4 y5 y6 y7 y8 y9 y10 y11)) ∧ (∀ y0 y1 y2 y3 y4 y5 y6 y7 y8 y9 y10 y11 y12, LeO (lambrequinref20_behind.l1 k y0 y1 y2 y3 y4 y5 y6 y7 y8 y9 y10 y11 y12) (lambrequinref20_behind.l1 (k + 1) y0 y1 y2 y3 y4 y5 y6 y7 y8 y9 y10 y11 y12)) ∧ (∀ y0 y1 y2 y3 y4 y5 y6 y7 y8 y9 y10 y11 y12 y13, LeO (lambrequinref20_behind.j2 k y0 y1 y2 y3 y4 y5 y6 y7 y8 y9 y10 y11 y12 y13) (lambrequinref20_behind.j2 (k + 1) y0 y1 y2 y3 y4 y5 y6 y7 y8 y9 y10 y11 y12 y13))
 | 0 => ⟨fun _ _ _ _ _ _ _ _ _ _ _ _ r h => by simp [lambrequinref20_behind.l0] at h, fun _ _ _ _ _ _ _ _ _ _ _ _ _ r h => by simp [lambrequinref20_behind.l1] at h, fun _ _ _ _ _ _ _ _ _ _ _ _ _ _ r h => by simp [lambrequinref20_behind.j2] at h⟩
 | k + 1 => by
  obtain ⟨ih0, ih1, ih2⟩ := lambrequinref20_behind.mono_l k
  refine ⟨?_, ?_, ?_⟩
  ·intro y0 y1 y2 y3 y4 y5 y6 y7 y8 y9 y10 y11
   unfold lambrequinref20_behind.l0
   repeat' first
   | (with_reducible exact ih0 _ _ _ _ _ _ _ _ _ _ _ _)
   | (with_reducible exact ih1 _ _ _ _ _ _ _ _ _ _ _ _ _)
   | (with_reducible exact ih2 _ _ _ _ _ _ _ _ _ _ _ _ _ _)
   | (with_reducible exact lambrequinref09_In.mono _ _ _)
   | (with_reducible exact lambrequinref20_Uses.mono _ _ _ _ _ _ _ _ _)
   | (with_reducible exact LeO.refl _)
   | (with_reducible exact LeO.none _)
   | (with_reducible refine LeO.ite ?_ ?_)
   | (with_reducible refine LeO.bind ?_ (fun _ => ?_))
   | exact ih0 _ _ _ _ _ _ _ _ _ _ _ _
   | exact ih1 _ _ _ _ _ _ _ _ _ _ _ _ _
   | exact ih2 _ _ _ _ _ _ _ _ _ _ _ _ _ _
   | exact lambrequinref09_In.mono _ _ _
   | exact lambrequinref20_Uses.mono _ _ _ _ _ _ _ _ _
   | exact LeO.none _
   | refine LeO.ite ?_ ?_
   | refine LeO.bind ?_ (fun _ => ?_)
  ·intro y0 y1 y2 y3 y4 y5 y6 y7 y8 y9 y10 y11 y12
   unfold lambrequinref20_behind.l1
   repeat' first
   | (with_reducible exact ih0 _ _ _ _ _ _ _ _ _ _ _ _)
   | (with_reducible exact ih1 _ _ _ _ _ _ _ _ _ _ _ _ _)
   | (with_reducible exact ih2 _ _ _ _ _ _ _ _ _ _ _ _ _ _)
   | (with_reducible exact lambrequinref09_In.mono _ _ _)
   | (with_reducible exact lambrequinref20_Uses.mono _ _ _ _ _ _ _ _ _)
   | (with_reducible exact LeO.refl _)
   | (with_reducible exact LeO.none _)
   | (with_reducible refine LeO.ite ?_ ?_)
   | (with_reducible refine LeO.bind ?_ (fun _ => ?_))
   | exact ih0 _ _ _ _ _ _ _ _ _ _ _ _
   | exact ih1 _ _ _ _ _ _ _ _ _ _ _ _ _
   | exact ih2 _ _ _ _ _ _ _ _ _ _ _ _ _ _
   | exact lambrequinref09_In.mono _ _ _
   | exact lambrequinref20_Uses.mono _ _ _ _ _ _ _ _ _
   | exact LeO.none _
   | refine LeO.ite ?_ ?_
   | refine LeO.bind ?_ (fun _ => ?_)
  ·intro y0 y1 y2 y3 y4 y5 y6 y7 y8 y9 y10 y11 y12 y13
   unfold lambrequinref20_behind.j2
   repeat' first
   | (with_reducible exact ih0 _ _ _ _ _ _ _ _ _ _ _ _)
   | (with_reducible exact ih1 _ _ _ _ _ _ _ _ _ _ _ _ _)
   | (with_reducible exact ih2 _ _ _ _ _ _ _ _ _ _ _ _ _ _)
   | (with_reducible exact lambrequinref09_In.mono _ _ _)
   | (with_reducible exact lambrequinref20_Uses.mono _ _ _ _ _ _ _ _ _)
   | (with_reducible exact LeO.refl _)
   | (with_reducible exact LeO.none _)
   | (with_reducible refine LeO.ite ?_ ?_)
   | (with_reducible refine LeO.bind ?_ (fun _ => ?_))
   | exact ih0 _ _ _ _ _ _ _ _ _ _ _ _
   | exact ih1 _ _ _ _ _ _ _ _ _ _ _ _ _
   | exact ih2 _ _ _ _ _ _ _ _ _ _ _ _ _ _
   | exact lambrequinref09_In.mono _ _ _
   | exact lambrequinref20_Uses.mono _ _ _ _ _ _ _ _ _
   | exact LeO.none _
   | refine LeO.ite ?_ ?_
   | refine LeO.bind ?_ (fun _ => ?_)
theorem lambrequinref20_behind.mono : ∀ a0 a1 a2 a3 a4 a5 a6 a7 a8 a9 k, LeO (lambrequinref20_behind.f k a0 a1 a2 a3 a4 a5 a6 a7 a8 a9) (lambrequinref20_behind.f (k + 1) a0 a1 a2 a3 a4 a5 a6 a7 a8 a9) := by
 intro a0 a1 a2 a3 a4 a5 a6 a7 a8 a9 k
 obtain ⟨ih0, ih1, ih2⟩ := lambrequinref20_behind.mono_l k
 unfold lambrequinref20_behind.f
 repeat' first
   | (with_reducible exact ih0 _ _ _ _ _ _ _ _ _ _ _ _)
   | (with_reducible exact ih1 _ _ _ _ _ _ _ _ _ _ _ _ _)
   | (with_reducible exact ih2 _ _ _ _ _ _ _ _ _ _ _ _ _ _)
   | (with_reducible exact lambrequinref09_In.mono _ _ _)
   | (with_reducible exact lambrequinref20_Uses.mono _ _ _ _ _ _ _ _ _)
   | (with_reducible exact LeO.refl _)
   | (with_reducible exact LeO.none _)
   | (with_reducible refine LeO.ite ?_ ?_)
   | (with_reducible refine LeO.bind ?_ (fun _ => ?_))
   | exact ih0 _ _ _ _ _ _ _ _ _ _ _ _
   | exact ih1 _ _ _ _ _ _ _ _ _ _ _ _ _
   | exact ih2 _ _ _ _ _ _ _ _ _ _ _ _ _ _
   | exact lambrequinref09_In.mono _ _ _
   | exact lambrequinref20_Uses.mono _ _ _ _ _ _ _ _ _
   | exact LeO.none _
   | refine LeO.ite ?_ ?_
   | refine LeO.bind ?_ (fun _ => ?_)
def lambrequinref20_behind.T10 : Bool × List (List Nat × List Nat) := (true, [([], []), ([], []), ([], []), ([], []), ([2, 3], [2, 3]), ([4], [4]), ([5], [5]), ([6], [6]), ([6], [6]), ([7, 8, 6], [6, 7, 8]), ([9, 6], [6, 9]), ([10, 6, 6], [6, 10]), ([11], [11]), ([12, 11, 11], [11, 12]), ([11], [11]), ([11], [11]), ([14, 15, 11], [11, 14, 15]), ([16, 11], [11, 16]), ([13, 17, 13, 11], [11, 13, 17]), ([11, 18, 6], [6, 11, 18]), ([6, 19], [6, 19]), ([0, 1, 0, 1, 2, 3, 4, 5, 6, 7, 8, 9, 10, 11, 12, 13, 14, 15, 16, 17, 18, 19, 20], [0, 1]), ([21, 20, 18, 0, 1, 2, 3, 4, 5, 6, 7, 8, 9, 10, 11, 12, 13, 14, 15, 16, 17, 18, 19, 20], [20, 21])])
def lambrequinref20_behind.B10 : List Nat := [0, 0, 0, 0, 12, 28, 60, 124, 124, 508, 1020, 2044, 4092, 8188, 4092, 4092, 53244, 118780, 262140, 524284, 1048572, 2097151, 4194303]
theorem lambrequinref20_behind.tab10 : rtab .any (opsOf Try.f78 10) = lambrequinref20_behind.T10 := by kernel_rfl
theorem lambrequinref20_behind.bits10 : waitsOk lambrequinref20_behind.T10.2 lambrequinref20_behind.B10 = true := by kernel_rfl
set_option maxHeartbeats 8000000 in
set_option maxRecDepth 100000 in
theorem lambrequinref20_behind.calls (k : Nat) (a0_0 : Int) (a0_1 : ByteArray) (a0_2 : ByteArray) (a0_3 : ByteArray) (a0_4 : ByteArray) (a0_5 : Int) (a0_6 : Int) (a0_7 : Int) (A1 : Option Addr) (c1 : Nat) (l1 : List ByteArray) (A2 : Option Addr) (c2 : Nat) (l2 : List Bool) (r : List Bool) (w : World) (hr1 : Kd.C Kd.string w A1 l1.length l1) (hc1 : l1.length ≤ c1) (hr2 : Kd.C Kd.bool w A2 l2.length l2) (hc2 : l2.length ≤ c2) (h : lambrequinref20_behind.f k a0_0 a0_1 a0_2 a0_3 a0_4 a0_5 a0_6 a0_7 l1 l2 = some r) :
  Calls Try.prog 78 #[.agg #[.int .i64 a0_0, .string a0_1, .string a0_2, .string a0_3, .string a0_4, .int .i64 a0_5, .int .i64 a0_6, .int .i64 a0_7], .slice A1 l1.length c1, .slice A2 l2.length c2] w fun e w' => ∃ v0_ : Value, e = .returned (v0_) ∧ Kd.R Kd.bool 4 w' w.heap.size (fun _ => True) v0_ r ∧ Below w.heap.size w w' := by
 have hu30 := Try.underlying30
 have HR1 := am hr1
 have HC1 := am hc1
 clear hr1 hc1
 have HR2 := am hr2
 have HC2 := am hc2
 clear hr2 hc2
 have HB := am (Below.refl w.heap.size w)
 have H : ((some (([] : List Bool) : List Bool)).bind fun y102 => (if y102.length + l2.length < 140737488355328 then (lambrequinref20_behind.l0 k l1 l2 (y102 ++ l2) 0 a0_0 a0_1 a0_2 a0_3 a0_4 a0_5 a0_6 a0_7) else (none))) = some r := h
 clear h
 obtain ⟨y102, hy102⟩ : ∃ y_ : List Bool, y_ = (([] : List Bool)) := ⟨_, rfl⟩
 replace H : (if y102.length + l2.length < 140737488355328 then (lambrequinref20_behind.l0 k l1 l2 (y102 ++ l2) 0 a0_0 a0_1 a0_2 a0_3 a0_4 a0_5 a0_6 a0_7) else (none)) = some r := by first | (rw [hy102]; with_reducible exact H) | (have H2_ := (Option.bind_some _ _).symm.trans H; rw [hy102]; with_reducible exact H2_) | (have H2_ := (Option.bind_some _ _).symm.trans H; with_reducible exact H2_) | with_reducible exact H | (rw [hy102]; exact H) | exact H
 have Ny102 := am hy102
 clear hy102
 by_cases c4 : y102.length + l2.length < 140737488355328
 ·rw [if_pos c4] at H
  have LMc4 := am c4
  clear c4
  obtain ⟨y105, hy105⟩ : ∃ y_ : List Bool, y_ = (y102 ++ l2) := ⟨_, rfl⟩
  replace H : (lambrequinref20_behind.l0 k l1 l2 y105 0 a0_0 a0_1 a0_2 a0_3 a0_4 a0_5 a0_6 a0_7) = some r := by first | (rw [hy105]; with_reducible exact H) | (have H2_ := (Option.bind_some _ _).symm.trans H; rw [hy105]; with_reducible exact H2_) | (have H2_ := (Option.bind_some _ _).symm.trans H; with_reducible exact H2_) | with_reducible exact H | (rw [hy105]; exact H) | exact H
  have Ny105 := am hy105
  clear hy105
  have H' := am H
  clear H
  go_enter Try.func78, Try.ntmps78
  go_wp2_with (first | ((with_reducible refine gate_dst (N := 3) rfl ?_); refine box_event ?hg (N := 3) ?hd (cs := #[.int .i64 a0_0, .string a0_1, .string a0_2, .string a0_3, .string a0_4, .int .i64 a0_5, .int .i64 a0_6, .int .i64 a0_7]) (t := 30) ?hr ?_; (case hd => rfl); (case hg => rfl); (case hr => first | (go_simp; done) | (go_simp; rfl)); intro gb101 hg w5 hbox hb; have BK101 := am (hbox); have GW101 := am ((by rw [hg]; exact (below_size (by repeat (first | (with_reducible first | exact HB.out | apply lA | apply lN | apply lD) | exact HB.out))) : w.heap.size ≤ gb101)); have GE101 := am ((by rw [hg]; exact (below_size (by repeat (first | (with_reducible first | exact HB.out | apply lA | apply lN | apply lD) | exact HB.out))) : w.heap.size ≤ gb101)); replace HB := am (below_step (by repeat (first | (with_reducible first | exact HB.out | apply lA | apply lN | apply lD) | exact HB.out)) hb); clear hb hbox hg) | ((with_reducible refine gate_dst (N := 10) rfl ?_); refine Kd.R_lit Kd.bool _ 4 ?hg (N := 10) ?hd (xs := ([] : List Bool)) (inner := []) (ok := fun _ => True) (okp := fun _ => True) ?hr ?hp (fun _ hk => hk) trivial (Below.refl _ _) (Nat.le_refl _) (by simp) ?_; (case hd => rfl); (case hg => rfl); (case hr => first | (go_simp; done) | (go_simp; rfl)); (case hp => exact (Reps.none _ _)); intro v103 w6 ho7 hb hg_ hnew_; clear hg_ hnew_; (first | rw [← Ny102.out] at ho7 | (simp only [Int.reduceToNat] at ho7; rw [← Ny102.out] at ho7)); have HO104 := am (Kd.R_lower ho7 (below_size (by repeat (first | (with_reducible first | exact HB.out | apply lA | apply lN | apply lD | refine lS ?_ GE101.out) | exact HB.out)))); replace BK101 := am (blk_below (g := gb101) (o := .cells #[.int .i64 a0_0, .string a0_1, .string a0_2, .string a0_3, .string a0_4, .int .i64 a0_5, .int .i64 a0_6, .int .i64 a0_7] 30 (0, 0)) (by (with_reducible repeat (first | refine bN ?_ _ | refine bD ?_ | refine bA ?_ _)); exact BK101.out) hb); replace HB := am (below_step (by repeat (first | (with_reducible first | exact HB.out | apply lA | apply lN | apply lD | refine lS ?_ GE101.out) | exact HB.out)) hb); clear hb ho7) | ((with_reducible refine gate_builtin (b := .append) (xs := #[.tmp 10, .tmp 11]) rfl ?_); at_builtin; refine Kd.R_append_rows Kd.bool (w0 := w) w.heap.size rfl (.tmp 10) (.tmp 11) 41 4 (.bool false) 1 rfl Try.underlying41 info4 rfl (by decide) (by omega) v103 y102 l2 _ _ _ (fun _ => True) (fun _ => False) rfl rfl ?aO ?aR (fun _ _ h => h) (fun _ h => h.elim) ?aF ?aB ?aS ?aL ?_; (case aR => repeat (first | exact (Kd.C_below HR2.out HB.out) | (with_reducible refine Kd.C_alloc ?_ _) | (with_reducible refine Kd.C_drewN ?_ _) | (with_reducible refine Kd.C_drew ?_))); (case aB => exact (by repeat (first | (with_reducible first | exact HB.out | apply lA | apply lN | apply lD | refine lS ?_ GE101.out) | exact HB.out))); (case aF => exact (fun _ _ => trivial)); (case aO => exact (by (with_reducible repeat (first | apply Ra | apply Rn | apply Rd)); exact HO104.out)); (case aS => exact (below_size (by repeat (first | (with_reducible first | exact HB.out | apply lA | apply lN | apply lD | refine lS ?_ GE101.out) | exact HB.out)))); (case aL => have := LMc4.out; omega); intro v106 w8 ho hb hg hat; rw [← Ny105.out] at ho; replace BK101 := am (blk_grown (g := gb101) (o := .cells #[.int .i64 a0_0, .string a0_1, .string a0_2, .string a0_3, .string a0_4, .int .i64 a0_5, .int .i64 a0_6, .int .i64 a0_7] 30 (0, 0)) (by (with_reducible repeat (first | refine bN ?_ _ | refine bD ?_ | refine bA ?_ _)); exact BK101.out) hg (Kd.R_ne HO104.out BK101.out (by decide))); replace HB := am (hb); have HO107 := am (ho); clear HO104; clear ho hb hg hat))
  go_loopg [8] k (fun kq v8 w' => ∃ (x7_1 : List Bool) (x8_1 : Int), v8 = .int .i64 x8_1 ∧ Aside0 (lambrequinref20_behind.l0 kq l1 l2 x7_1 x8_1 a0_0 a0_1 a0_2 a0_3 a0_4 a0_5 a0_6 a0_7 = some r) ∧ Aside0 (kq ≤ k) ∧ Aside0 (Kd.R Kd.bool 4 w' w.heap.size (fun _ => True) v106 x7_1) ∧ Aside0 (w'.heap[gb101]? = some (.cells #[.int .i64 a0_0, .string a0_1, .string a0_2, .string a0_3, .string a0_4, .int .i64 a0_5, .int .i64 a0_6, .int .i64 a0_7] 30 (0, 0))) ∧ Aside0 (Below w.heap.size w w'))
  case atStart => exact ⟨(y105), (0), (by first | rfl | (simp; done) | (simp [*]; done)), H', ⟨Nat.le_refl _⟩, ⟨by (with_reducible repeat (first | apply Ra | apply Rn | apply Rd)); exact HO107.out⟩, ⟨by (with_reducible repeat (first | refine bN ?_ _ | refine bD ?_ | refine bA ?_ _)); exact BK101.out⟩, ⟨by repeat (first | (with_reducible first | exact HB.out | apply lA | apply lN | apply lD | refine lS ?_ GE101.out) | exact HB.out)⟩⟩
  case round =>
   clear H'
   try clear c1
   try clear c2
   try clear p2
   try clear c4
   try clear c7
   obtain ⟨x7_1, x8_1, rfl, HA, HK1, HO_7, BK101, HB⟩ := hrel
   cases gk with
   | zero => exact absurd HA.out (by simp [lambrequinref20_behind.l0])
   | succ k1 =>
    have H := HA.out
    clear HA
    simp only [lambrequinref20_behind.l0] at H
    by_cases c9 : x8_1 < (l1.length : Int)
    ·rw [if_pos c9] at H
     have c9b0 : decide (x8_1 < (l1.length : Int)) = true := decide_eq_true c9
     clear c9
     by_cases c10 : 0 ≤ x8_1
     ·rw [if_pos c10] at H
      have c10b0 : decide (0 ≤ x8_1) = true := decide_eq_true c10
      clear c10
      replace H := Option.bind_eq_some_iff.mp H
      obtain ⟨t109, A110, H⟩ := H
      replace H : (if t109 = true then (if x8_1 < (x7_1.length : Int) then (lambrequinref20_behind.l1 k1 l1 l2 (x7_1.set (x8_1 : Int).toNat (a0_0 == 4)) x8_1 0 a0_0 a0_1 a0_2 a0_3 a0_4 a0_5 a0_6 a0_7) else (none)) else (lambrequinref20_behind.l0 k1 l1 l2 x7_1 (wrap64 (x8_1 + 1)) a0_0 a0_1 a0_2 a0_3 a0_4 a0_5 a0_6 a0_7)) = some r := H
      have A11 := am A110
      clear A110
      by_cases c12 : t109 = true
      ·subst c12
       have H1 : (if x8_1 < (x7_1.length : Int) then (lambrequinref20_behind.l1 k1 l1 l2 (x7_1.set (x8_1 : Int).toNat (a0_0 == 4)) x8_1 0 a0_0 a0_1 a0_2 a0_3 a0_4 a0_5 a0_6 a0_7) else (none)) = some r := by rw [if_pos rfl] at H; exact H
       clear H
       have H := H1
       clear H1
       by_cases c13 : x8_1 < (x7_1.length : Int)
       ·rw [if_pos c13] at H
        have c13b0 : decide (x8_1 < (x7_1.length : Int)) = true := decide_eq_true c13
        clear c13
        obtain ⟨y110, hy110⟩ : ∃ y_ : List Bool, y_ = (x7_1.set (x8_1 : Int).toNat (a0_0 == 4)) := ⟨_, rfl⟩
        replace H : (lambrequinref20_behind.l1 k1 l1 l2 y110 x8_1 0 a0_0 a0_1 a0_2 a0_3 a0_4 a0_5 a0_6 a0_7) = some r := by first | (rw [hy110]; with_reducible exact H) | (have H2_ := (Option.bind_some _ _).symm.trans H; rw [hy110]; with_reducible exact H2_) | (have H2_ := (Option.bind_some _ _).symm.trans H; with_reducible exact H2_) | with_reducible exact H | (rw [hy110]; exact H) | exact H
        have Ny110 := am hy110
        clear hy110
        have H' := am H
        clear H
        try go_wp2
        replace HO_7 := am (Kd.R_drew HO_7.out)
        replace BK101 := am (blk_drew BK101.out)
        replace HB := am (below_drew1 HB.out)
        have p108 : 0 ≤ (x8_1 : Int) := of_decide_eq_true (by first | (with_reducible assumption) | assumption)
        have q108 : x8_1 < (l1.length : Int) := of_decide_eq_true (by first | (with_reducible assumption) | assumption)
        obtain ⟨ad108, e108, hx108_0⟩ := Kd.at_string HR1.out x8_1 p108 q108
        have hw108_0 := hx108_0
        cases e108
        replace hx108_0 := (HB.out.cell (blt_ hx108_0)).trans hx108_0
        replace p108 := eq_true p108
        replace q108 := eq_true q108
        refine start_ (n := 7) (S := fun w' => w'.cell? ⟨gb101, 0, none⟩ = some (.int .i64 a0_0) ∧ w'.cell? ⟨gb101, 1, none⟩ = some (.string a0_1) ∧ w'.cell? ⟨gb101, 2, none⟩ = some (.string a0_2) ∧ w'.cell? ⟨gb101, 3, none⟩ = some (.string a0_3) ∧ w'.cell? ⟨gb101, 4, none⟩ = some (.string a0_4) ∧ w'.cell? ⟨gb101, 5, none⟩ = some (.int .i64 a0_5) ∧ w'.cell? ⟨gb101, 6, none⟩ = some (.int .i64 a0_6) ∧ w'.cell? ⟨gb101, 7, none⟩ = some (.int .i64 a0_7) ∧ w'.cell? (ad108.add (x8_1).toNat) = some (.string (rdOf ByteArray.empty l1 x8_1))) (ds := []) #[false, false, false, false, false, false, false] (by kernel_rfl) rfl rfl ⟨(blk_cell BK101.out 0).trans rfl, (blk_cell BK101.out 1).trans rfl, (blk_cell BK101.out 2).trans rfl, (blk_cell BK101.out 3).trans rfl, (blk_cell BK101.out 4).trans rfl, (blk_cell BK101.out 5).trans rfl, (blk_cell BK101.out 6).trans rfl, (blk_cell BK101.out 7).trans rfl, ((HB.out.cell (blt_ hw108_0)).trans hw108_0)⟩ (fun hHeld => ?_)
        generalize wr.drew = w15 at HO_7 BK101 HB hx108_0 hHeld ⊢
        refine pure_ (i := 1) (N := some 20) (v := ?_) (a' := ?_) #[false, true, false, false, false, false, false] rfl rfl (by kernel_rfl) (fun _ _ _ h => h) (Or.inl ⟨by rfl, ?_⟩) ?_ ?_
        rotate_left
        ·intro w'
         go_simp
         with_reducible rfl
        rotate_left
        ·simp only [Act.put, sA, sZ, sS, i64_w, i32_w]
         rfl
        refine pure_ (i := 2) (N := some 21) (v := ?_) (a' := ?_) #[false, true, true, false, false, false, false] rfl rfl (by kernel_rfl) (fun _ _ _ h => h) (Or.inl ⟨by rfl, ?_⟩) ?_ ?_
        rotate_left
        ·intro w'
         go_simp
         with_reducible rfl
        rotate_left
        ·simp only [Act.put, sA, sZ, sS, i64_w, i32_w]
         rfl
        refine pure_ (i := 3) (N := some 22) (v := ?_) (a' := ?_) #[false, true, true, true, false, false, false] rfl rfl (by kernel_rfl) (fun _ _ _ h => h) (Or.inl ⟨by rfl, ?_⟩) ?_ ?_
        rotate_left
        ·intro w'
         go_simp
         with_reducible rfl
        rotate_left
        ·simp only [Act.put, sA, sZ, sS, i64_w, i32_w]
         rfl
        refine take_ (i := 0) (N := some 19) (v := ?_) (a' := ?_) #[true, true, true, true, false, false, false] rfl rfl (by kernel_rfl) (fun _ _ _ h => h) (Or.inl ⟨by rfl, ?_⟩) hHeld ?_ ?_
        rotate_left
        ·rintro w' ⟨s0, s1, s2, s3, s4, s5, s6, s7, s8⟩
         go_simp
         with_reducible rfl
        rotate_left
        ·simp only [Act.put, sA, sZ, sS, i64_w, i32_w]
         rfl
        refine take_ (i := 4) (N := some 23) (v := ?_) (a' := ?_) #[true, true, true, true, true, false, false] rfl rfl (by kernel_rfl) (fun _ _ _ h => h) (Or.inl ⟨by rfl, ?_⟩) hHeld ?_ ?_
        rotate_left
        ·rintro w' ⟨s0, s1, s2, s3, s4, s5, s6, s7, s8⟩
         go_simp
         with_reducible rfl
        rotate_left
        ·simp only [Act.put, sA, sZ, sS, i64_w, i32_w]
         rfl
        refine one_ (i := 5) (N := some 24) #[true, true, true, true, true, true, false] rfl rfl (by kernel_rfl) (by decide) (fun K hK => ?_)
        refine goes_ Try.func58 (by kernel_rfl) rfl #[.agg #[.int .i64 a0_0, .string a0_1, .string a0_2, .string a0_3, .string a0_4, .int .i64 a0_5, .int .i64 a0_6, .int .i64 a0_7], .string (rdOf ByteArray.empty l1 x8_1)] (by rfl) rfl rfl (by (try simp only [List.map_toArray, List.map_cons, List.map_nil]); first | done | rfl | (simp only [List.length_drop, List.length_take]; rfl)) ?_
        with_reducible refine (lambrequinref20_Defines.calls a0_0 a0_1 a0_2 a0_3 a0_4 a0_5 a0_6 a0_7 (rdOf ByteArray.empty l1 x8_1) true _ A11.out).mono ?_
        rintro e w16 ⟨rfl, hb⟩
        refine ⟨_, rfl, ?_⟩
        replace HO_7 := am (Kd.R_below (by (with_reducible repeat (first | apply Ra | apply Rn | apply Rd)); exact HO_7.out) hb)
        replace BK101 := am (blk_below (g := gb101) (o := .cells #[.int .i64 a0_0, .string a0_1, .string a0_2, .string a0_3, .string a0_4, .int .i64 a0_5, .int .i64 a0_6, .int .i64 a0_7] 30 (0, 0)) (by (with_reducible repeat (first | refine bN ?_ _ | refine bD ?_ | refine bA ?_ _)); exact BK101.out) hb)
        replace HB := am (below_step (by repeat (first | (with_reducible first | exact HB.out | apply lA | apply lN | apply lD | refine lS ?_ GE101.out) | exact HB.out)) hb)
        (try clear hb)
        (try clear hb2)
        (try clear hk)
        (try clear hi)
        refine hK.out _ _ ⟨(blk_cell BK101.out 0).trans rfl, (blk_cell BK101.out 1).trans rfl, (blk_cell BK101.out 2).trans rfl, (blk_cell BK101.out 3).trans rfl, (blk_cell BK101.out 4).trans rfl, (blk_cell BK101.out 5).trans rfl, (blk_cell BK101.out 6).trans rfl, (blk_cell BK101.out 7).trans rfl, ((HB.out.cell (blt_ hw108_0)).trans hw108_0)⟩ (fun hHeld => ?_)
        clear hK K
        refine norm_ (a' := ?_) ?_ ?_
        rotate_left
        ·show Act.put _ (some 24) _ = _
         simp only [Act.put, sA, sZ, sS, i64_w, i32_w]
         rfl
        refine pure_ (i := 6) (N := some 25) (v := ?_) (a' := ?_) #[true, true, true, true, true, true, true] rfl rfl (by kernel_rfl) (fun _ _ _ h => h) (Or.inl ⟨by rfl, ?_⟩) ?_ ?_
        rotate_left
        ·intro w'
         go_simp
         with_reducible rfl
        rotate_left
        ·simp only [Act.put, sA, sZ, sS, i64_w, i32_w]
         rfl
        refine done_ (by kernel_rfl) ?_
        have hcz17_0 : w16.cell? ⟨gb101, 0, none⟩ = some (.int .i64 a0_0) := (blk_cell BK101.out 0).trans rfl
        have hcz17_1 : w16.cell? ⟨gb101, 1, none⟩ = some (.string a0_1) := (blk_cell BK101.out 1).trans rfl
        have hcz17_2 : w16.cell? ⟨gb101, 2, none⟩ = some (.string a0_2) := (blk_cell BK101.out 2).trans rfl
        have hcz17_3 : w16.cell? ⟨gb101, 3, none⟩ = some (.string a0_3) := (blk_cell BK101.out 3).trans rfl
        have hcz17_4 : w16.cell? ⟨gb101, 4, none⟩ = some (.string a0_4) := (blk_cell BK101.out 4).trans rfl
        have hcz17_5 : w16.cell? ⟨gb101, 5, none⟩ = some (.int .i64 a0_5) := (blk_cell BK101.out 5).trans rfl
        have hcz17_6 : w16.cell? ⟨gb101, 6, none⟩ = some (.int .i64 a0_6) := (blk_cell BK101.out 6).trans rfl
        have hcz17_7 : w16.cell? ⟨gb101, 7, none⟩ = some (.int .i64 a0_7) := (blk_cell BK101.out 7).trans rfl
        have hfz17_0 := blk_frozen BK101.out 0
        have hfz17_1 := blk_frozen BK101.out 1
        have hfz17_2 := blk_frozen BK101.out 2
        have hfz17_3 := blk_frozen BK101.out 3
        have hfz17_4 := blk_frozen BK101.out 4
        have hfz17_5 := blk_frozen BK101.out 5
        have hfz17_6 := blk_frozen BK101.out 6
        have hfz17_7 := blk_frozen BK101.out 7
        have p14 : 0 ≤ (x8_1 : Int) := of_decide_eq_true (by first | (with_reducible assumption) | assumption)
        have q14 : (x8_1 : Int) < ((x7_1.length : Int) : Int) := of_decide_eq_true (by first | (with_reducible assumption) | assumption)
        obtain ⟨go14, co14, eo14, gb14, gl14, cl14, HG14⟩ := Kd.R_form HO_7.out (by omega)
        (first | cases eo14 | (injection eo14 with ea_ en_ ec_; (first | subst ea_ | (injection ea_ with ea_; subst ea_)); subst ec_; clear en_))
        have GB14 := am gb14
        have GG14 := am HG14
        clear gb14 gl14 HG14
        obtain ⟨hx14_0, hf14_0⟩ := Kd.R_celln false HO_7.out (x8_1 : Int) p14 q14
        replace p14 := eq_true p14
        replace q14 := eq_true q14
        obtain ⟨hy18_, hz18_⟩ := Kd.R_celln false HO_7.out (x8_1 : Int) (of_decide_eq_true (by first | (with_reducible assumption) | assumption)) (of_decide_eq_true (by first | (with_reducible assumption) | assumption))
        have HP18 := Kd.R_putg HO_7.out (x8_1 : Int) (a0_0 == 4)
        try go_wp2_with (first | ((with_reducible refine gate_store (t := 4) (p := 31) rfl ?_); refine store_event (t := 4) (p := 31) (v := ?vo_w19) (w1 := (w16.setCell ⟨go14, (x8_1 : Int).toNat, none⟩ (.bool (a0_0 == 4)))) ?hg ?ho ?hn ?hr ?_; (case ho => rfl); (case hg => rfl); (case hn => rfl); (case hr => first | (go_simp; done) | (go_simp; rfl)); intro w19 hw; have hg : w16.grownBy w19 (some go14) := (by rw [hw]; exact HP18.2); have hp_ : Kd.R Kd.bool 4 w19 w.heap.size (fun _ => True) (.slice (some ⟨go14, 0, none⟩) x7_1.length co14) y110 := (by rw [hw, Ny110.out]; exact HP18.1); clear HP18; replace BK101 := am (blk_grown (g := gb101) (o := .cells #[.int .i64 a0_0, .string a0_1, .string a0_2, .string a0_3, .string a0_4, .int .i64 a0_5, .int .i64 a0_6, .int .i64 a0_7] 30 (0, 0)) (by (with_reducible repeat (first | refine bN ?_ _ | refine bD ?_ | refine bA ?_ _)); exact BK101.out) hg (Kd.R_ne HO_7.out BK101.out (by decide))); replace HO_7 := am (hp_); replace HB := am ((by rw [hw]; exact below_set (HB.out) GB14.out : Below w.heap.size w w19)); clear hg hw hp_))
        go_loopg [9] k1 (fun kq v9 w' => ∃ (x7_2 : List Bool) (x9_2 : Int), v9 = .int .i64 x9_2 ∧ Aside0 (lambrequinref20_behind.l1 kq l1 l2 x7_2 x8_1 x9_2 a0_0 a0_1 a0_2 a0_3 a0_4 a0_5 a0_6 a0_7 = some r) ∧ Aside0 (kq ≤ k1) ∧ Aside0 (Kd.R Kd.bool 4 w' w.heap.size (fun _ => True) (.slice (some ⟨go14, 0, none⟩) x7_1.length co14) x7_2) ∧ Aside0 (w'.heap[gb101]? = some (.cells #[.int .i64 a0_0, .string a0_1, .string a0_2, .string a0_3, .string a0_4, .int .i64 a0_5, .int .i64 a0_6, .int .i64 a0_7] 30 (0, 0))) ∧ Aside0 (Below w.heap.size w w'))
        case atStart => exact ⟨(y110), (0), (by first | rfl | (simp; done) | (simp [*]; done)), H', ⟨Nat.le_refl _⟩, ⟨by (with_reducible repeat (first | apply Ra | apply Rn | apply Rd)); exact HO_7.out⟩, ⟨by (with_reducible repeat (first | refine bN ?_ _ | refine bD ?_ | refine bA ?_ _)); exact BK101.out⟩, ⟨by repeat (first | (with_reducible first | exact HB.out | apply lA | apply lN | apply lD | refine lS ?_ GE101.out) | exact HB.out)⟩⟩
        case round =>
         clear H'
         try clear c1
         try clear p1
         try clear q1
         try clear hx1
         try clear c2
         try clear p2
         try clear c4
         try clear c5
         try clear p6
         try clear c7
         try clear c9
         try clear c9b0
         try clear c10
         try clear c10b0
         try clear p10
         try clear q10
         try clear hx10
         try clear c12
         try clear c13
         try clear c13b0
         try clear p14
         try clear q14
         try clear hx14
         try clear hf14
         try clear hcz17_0
         try clear hcz17_1
         try clear hcz17_2
         try clear hcz17_3
         try clear hcz17_4
         try clear hcz17_5
         try clear hcz17_6
         try clear hcz17_7
         try clear hfz17_0
         try clear hfz17_1
         try clear hfz17_2
         try clear hfz17_3
         try clear hfz17_4
         try clear hfz17_5
         try clear hfz17_6
         try clear hfz17_7
         try clear hx108_0
         try clear hx14_0
         try clear p108
         try clear p14
         try clear p2
         try clear q108
         try clear q14
         obtain ⟨x7_2, x9_2, rfl, HA, HK2, HO_7, BK101, HB⟩ := hrel
         have hl7_2 := (Kd.R_reads' HO_7.out).1
         rw [hl7_2] at HO_7
         (try simp only [hl7_2])
         (try simp only [hl7_2] at BK101)
         cases gk with
         | zero => exact absurd HA.out (by simp [lambrequinref20_behind.l1])
         | succ k2 =>
          have H := HA.out
          clear HA
          simp only [lambrequinref20_behind.l1] at H
          have HC20 := am H
          clear H
          go_upto_region 8 with (fail)
          go_cut [45] (fun v45 wc => ∃ (kq : Nat) (x45_19 : Bool), v45 = .bool x45_19 ∧ Aside0 (lambrequinref20_behind.j2 kq l1 l2 x7_2 x8_1 x9_2 x45_19 a0_0 a0_1 a0_2 a0_3 a0_4 a0_5 a0_6 a0_7 = some r) ∧ Aside0 (kq ≤ k2) ∧ Aside0 (Kd.R Kd.bool 4 wc w.heap.size (fun _ => True) (.slice (some ⟨go14, 0, none⟩) x7_2.length co14) x7_2) ∧ Aside0 (wc.heap[gb101]? = some (.cells #[.int .i64 a0_0, .string a0_1, .string a0_2, .string a0_3, .string a0_4, .int .i64 a0_5, .int .i64 a0_6, .int .i64 a0_7] 30 (0, 0))) ∧ Aside0 (Below w.heap.size w wc))
          case first =>
           have H := HC20.out
           clear HC20
           by_cases c21 : x9_2 < (l1.length : Int)
           ·rw [if_pos c21] at H
            have c21b0 : decide (x9_2 < (l1.length : Int)) = true := decide_eq_true c21
            clear c21
            (first | rw [c21b0] | (simp only [i64_w, i32_w]; rw [c21b0]) | skip)
            by_cases c22 : a0_0 = 2
            ·rw [if_pos c22] at H
             have c22b0 : (a0_0 == 2) = true := beq_iff_eq.mpr c22
             have c22b1 : (a0_0 != 2) = false := bne_eq_false_iff_eq.mpr c22
             clear c22
             have H' := am H
             clear H
             have hcz23_0 : wr.cell? ⟨gb101, 0, none⟩ = some (.int .i64 a0_0) := (blk_cell BK101.out 0).trans rfl
             have hcz23_1 : wr.cell? ⟨gb101, 1, none⟩ = some (.string a0_1) := (blk_cell BK101.out 1).trans rfl
             have hcz23_2 : wr.cell? ⟨gb101, 2, none⟩ = some (.string a0_2) := (blk_cell BK101.out 2).trans rfl
             have hcz23_3 : wr.cell? ⟨gb101, 3, none⟩ = some (.string a0_3) := (blk_cell BK101.out 3).trans rfl
             have hcz23_4 : wr.cell? ⟨gb101, 4, none⟩ = some (.string a0_4) := (blk_cell BK101.out 4).trans rfl
             have hcz23_5 : wr.cell? ⟨gb101, 5, none⟩ = some (.int .i64 a0_5) := (blk_cell BK101.out 5).trans rfl
             have hcz23_6 : wr.cell? ⟨gb101, 6, none⟩ = some (.int .i64 a0_6) := (blk_cell BK101.out 6).trans rfl
             have hcz23_7 : wr.cell? ⟨gb101, 7, none⟩ = some (.int .i64 a0_7) := (blk_cell BK101.out 7).trans rfl
             have hfz23_0 := blk_frozen BK101.out 0
             have hfz23_1 := blk_frozen BK101.out 1
             have hfz23_2 := blk_frozen BK101.out 2
             have hfz23_3 := blk_frozen BK101.out 3
             have hfz23_4 := blk_frozen BK101.out 4
             have hfz23_5 := blk_frozen BK101.out 5
             have hfz23_6 := blk_frozen BK101.out 6
             have hfz23_7 := blk_frozen BK101.out 7
             go_wp2
             go_meet
             case rel => exact ⟨_, (true), (by first | rfl | (simp; done) | (simp [*]; done)), H', ⟨by have := HK1.out; have := HK2.out; first | omega | exact Nat.le_refl _⟩, ⟨by (try simp only [hl7_2]); (with_reducible repeat (first | apply Ra | apply Rn | apply Rd)); exact HO_7.out⟩, ⟨by (try simp only [hl7_2]); (with_reducible repeat (first | refine bN ?_ _ | refine bD ?_ | refine bA ?_ _)); exact BK101.out⟩, ⟨by repeat (first | (with_reducible first | exact HB.out | apply lA | apply lN | apply lD | refine lS ?_ GE101.out) | exact HB.out)⟩⟩
            ·rw [if_neg c22] at H
             have c22b0 : (a0_0 == 2) = false := beq_eq_false_iff_ne.mpr c22
             have c22b1 : (a0_0 != 2) = true := bne_iff_ne.mpr c22
             have H' := am H
             clear H
             have hcz24_0 : wr.cell? ⟨gb101, 0, none⟩ = some (.int .i64 a0_0) := (blk_cell BK101.out 0).trans rfl
             have hcz24_1 : wr.cell? ⟨gb101, 1, none⟩ = some (.string a0_1) := (blk_cell BK101.out 1).trans rfl
             have hcz24_2 : wr.cell? ⟨gb101, 2, none⟩ = some (.string a0_2) := (blk_cell BK101.out 2).trans rfl
             have hcz24_3 : wr.cell? ⟨gb101, 3, none⟩ = some (.string a0_3) := (blk_cell BK101.out 3).trans rfl
             have hcz24_4 : wr.cell? ⟨gb101, 4, none⟩ = some (.string a0_4) := (blk_cell BK101.out 4).trans rfl
             have hcz24_5 : wr.cell? ⟨gb101, 5, none⟩ = some (.int .i64 a0_5) := (blk_cell BK101.out 5).trans rfl
             have hcz24_6 : wr.cell? ⟨gb101, 6, none⟩ = some (.int .i64 a0_6) := (blk_cell BK101.out 6).trans rfl
             have hcz24_7 : wr.cell? ⟨gb101, 7, none⟩ = some (.int .i64 a0_7) := (blk_cell BK101.out 7).trans rfl
             have hfz24_0 := blk_frozen BK101.out 0
             have hfz24_1 := blk_frozen BK101.out 1
             have hfz24_2 := blk_frozen BK101.out 2
             have hfz24_3 := blk_frozen BK101.out 3
             have hfz24_4 := blk_frozen BK101.out 4
             have hfz24_5 := blk_frozen BK101.out 5
             have hfz24_6 := blk_frozen BK101.out 6
             have hfz24_7 := blk_frozen BK101.out 7
             go_wp2
             go_meet
             case rel => exact ⟨_, ((a0_0 == 3)), (by first | rfl | (simp; done) | (simp [*]; done)), H', ⟨by have := HK1.out; have := HK2.out; first | omega | exact Nat.le_refl _⟩, ⟨by (try simp only [hl7_2]); (with_reducible repeat (first | apply Ra | apply Rn | apply Rd)); exact HO_7.out⟩, ⟨by (try simp only [hl7_2]); (with_reducible repeat (first | refine bN ?_ _ | refine bD ?_ | refine bA ?_ _)); exact BK101.out⟩, ⟨by repeat (first | (with_reducible first | exact HB.out | apply lA | apply lN | apply lD | refine lS ?_ GE101.out) | exact HB.out)⟩⟩
           ·rw [if_neg c21] at H
            have c21b0 : decide (x9_2 < (l1.length : Int)) = false := decide_eq_false c21
            clear c21
            (first | rw [c21b0] | (simp only [i64_w, i32_w]; rw [c21b0]) | skip)
            have H' := am H
            clear H
            go_wp2
            go_meet
            case rel => exact ⟨_, (false), (by first | rfl | (simp; done) | (simp [*]; done)), H', ⟨by have := HK1.out; have := HK2.out; first | omega | exact Nat.le_refl _⟩, ⟨by (try simp only [hl7_2]); (with_reducible repeat (first | apply Ra | apply Rn | apply Rd)); exact HO_7.out⟩, ⟨by (try simp only [hl7_2]); (with_reducible repeat (first | refine bN ?_ _ | refine bD ?_ | refine bA ?_ _)); exact BK101.out⟩, ⟨by repeat (first | (with_reducible first | exact HB.out | apply lA | apply lN | apply lD | refine lS ?_ GE101.out) | exact HB.out)⟩⟩
          case rest =>
           clear HC20
           try clear c1
           try clear p1
           try clear q1
           try clear hx1
           try clear c2
           try clear p2
           try clear c4
           try clear c5
           try clear p6
           try clear c7
           try clear c9
           try clear c9b0
           try clear c10
           try clear c10b0
           try clear p10
           try clear q10
           try clear hx10
           try clear c12
           try clear c13
           try clear c13b0
           try clear p14
           try clear q14
           try clear hx14
           try clear hf14
           try clear c21
           try clear c21b0
           try clear c22
           try clear c22b0
           try clear c22b1
           try clear hcz17_0
           try clear hcz17_1
           try clear hcz17_2
           try clear hcz17_3
           try clear hcz17_4
           try clear hcz17_5
           try clear hcz17_6
           try clear hcz17_7
           try clear hcz23_0
           try clear hcz23_1
           try clear hcz23_2
           try clear hcz23_3
           try clear hcz23_4
           try clear hcz23_5
           try clear hcz23_6
           try clear hcz23_7
           try clear hcz24_0
           try clear hcz24_1
           try clear hcz24_2
           try clear hcz24_3
           try clear hcz24_4
           try clear hcz24_5
           try clear hcz24_6
           try clear hcz24_7
           try clear hfz17_0
           try clear hfz17_1
           try clear hfz17_2
           try clear hfz17_3
           try clear hfz17_4
           try clear hfz17_5
           try clear hfz17_6
           try clear hfz17_7
           try clear hfz23_0
           try clear hfz23_1
           try clear hfz23_2
           try clear hfz23_3
           try clear hfz23_4
           try clear hfz23_5
           try clear hfz23_6
           try clear hfz23_7
           try clear hfz24_0
           try clear hfz24_1
           try clear hfz24_2
           try clear hfz24_3
           try clear hfz24_4
           try clear hfz24_5
           try clear hfz24_6
           try clear hfz24_7
           try clear hx108_0
           try clear hx14_0
           try clear p1
           try clear p10
           try clear p108
           try clear p14
           try clear p2
           try clear p6
           try clear q1
           try clear q10
           try clear q108
           try clear q14
           obtain ⟨kq, x45_19, rfl, HA, HJ19, HO_7, BK101, HB⟩ := hcut
           cases kq with
           | zero => exact absurd HA.out (by simp [lambrequinref20_behind.j2])
           | succ kj19 =>
            have H := HA.out
            clear HA
            simp only [lambrequinref20_behind.j2] at H
            by_cases c25 : x45_19 = true
            ·subst c25
             have H1 : (if 0 ≤ x8_1 then (if x8_1 < (x7_2.length : Int) then (if rdOf false x7_2 x8_1 = true then (lambrequinref20_behind.l1 kj19 l1 l2 (x7_2.set (x8_1 : Int).toNat true) x8_1 (wrap64 (x9_2 + 1)) a0_0 a0_1 a0_2 a0_3 a0_4 a0_5 a0_6 a0_7) else (if 0 ≤ x9_2 then (if x9_2 < (l2.length : Int) then (if rdOf false l2 x9_2 = true then ((lambrequinref20_Uses.f kj19 a0_0 a0_1 a0_2 a0_3 a0_4 a0_5 a0_6 a0_7).bind fun t114 => (if x9_2 < (l1.length : Int) then ((lambrequinref09_In.f kj19 t114 (rdOf ByteArray.empty l1 x9_2)).bind fun t118 => (lambrequinref20_behind.l1 kj19 l1 l2 (x7_2.set (x8_1 : Int).toNat t118) x8_1 (wrap64 (x9_2 + 1)) a0_0 a0_1 a0_2 a0_3 a0_4 a0_5 a0_6 a0_7)) else (none))) else (lambrequinref20_behind.l1 kj19 l1 l2 (x7_2.set (x8_1 : Int).toNat false) x8_1 (wrap64 (x9_2 + 1)) a0_0 a0_1 a0_2 a0_3 a0_4 a0_5 a0_6 a0_7)) else (none)) else (none))) else (none)) else (none)) = some r := by rw [if_pos rfl] at H; exact H
             clear H
             have H := H1
             clear H1
             by_cases c26 : 0 ≤ x8_1
             ·rw [if_pos c26] at H
              have c26b0 : decide (0 ≤ x8_1) = true := decide_eq_true c26
              clear c26
              by_cases c27 : x8_1 < (x7_2.length : Int)
              ·rw [if_pos c27] at H
               have c27b0 : decide (x8_1 < (x7_2.length : Int)) = true := decide_eq_true c27
               clear c27
               obtain ⟨bq28, hbq28⟩ : ∃ b_ : Bool, b_ = (rdOf false x7_2 x8_1) := ⟨_, rfl⟩
               replace H : (if bq28 = true then (lambrequinref20_behind.l1 kj19 l1 l2 (x7_2.set (x8_1 : Int).toNat true) x8_1 (wrap64 (x9_2 + 1)) a0_0 a0_1 a0_2 a0_3 a0_4 a0_5 a0_6 a0_7) else (if 0 ≤ x9_2 then (if x9_2 < (l2.length : Int) then (if rdOf false l2 x9_2 = true then ((lambrequinref20_Uses.f kj19 a0_0 a0_1 a0_2 a0_3 a0_4 a0_5 a0_6 a0_7).bind fun t114 => (if x9_2 < (l1.length : Int) then ((lambrequinref09_In.f kj19 t114 (rdOf ByteArray.empty l1 x9_2)).bind fun t118 => (lambrequinref20_behind.l1 kj19 l1 l2 (x7_2.set (x8_1 : Int).toNat t118) x8_1 (wrap64 (x9_2 + 1)) a0_0 a0_1 a0_2 a0_3 a0_4 a0_5 a0_6 a0_7)) else (none))) else (lambrequinref20_behind.l1 kj19 l1 l2 (x7_2.set (x8_1 : Int).toNat false) x8_1 (wrap64 (x9_2 + 1)) a0_0 a0_1 a0_2 a0_3 a0_4 a0_5 a0_6 a0_7)) else (none)) else (none))) = some r := by rw [← hbq28] at H; exact H
               have Nbq28 := am hbq28
               clear hbq28
               by_cases c29 : bq28 = true
               ·subst c29
                have H1 : (lambrequinref20_behind.l1 kj19 l1 l2 (x7_2.set (x8_1 : Int).toNat true) x8_1 (wrap64 (x9_2 + 1)) a0_0 a0_1 a0_2 a0_3 a0_4 a0_5 a0_6 a0_7) = some r := by rw [if_pos rfl] at H; exact H
                clear H
                have H := H1
                clear H1
                obtain ⟨y112, hy112⟩ : ∃ y_ : List Bool, y_ = (x7_2.set (x8_1 : Int).toNat true) := ⟨_, rfl⟩
                replace H : (lambrequinref20_behind.l1 kj19 l1 l2 y112 x8_1 (wrap64 (x9_2 + 1)) a0_0 a0_1 a0_2 a0_3 a0_4 a0_5 a0_6 a0_7) = some r := by first | (rw [hy112]; with_reducible exact H) | (have H2_ := (Option.bind_some _ _).symm.trans H; rw [hy112]; with_reducible exact H2_) | (have H2_ := (Option.bind_some _ _).symm.trans H; with_reducible exact H2_) | with_reducible exact H | (rw [hy112]; exact H) | exact H
                have Ny112 := am hy112
                clear hy112
                have H' := am H
                clear H
                try go_wp2
                replace HO_7 := am (Kd.R_drew HO_7.out)
                replace BK101 := am (blk_drew BK101.out)
                replace HB := am (below_drew1 HB.out)
                have p111 : 0 ≤ (x8_1 : Int) := of_decide_eq_true (by first | (with_reducible assumption) | assumption)
                have q111 : x8_1 < (x7_2.length : Int) := of_decide_eq_true (by first | (with_reducible assumption) | assumption)
                obtain ⟨ad111, e111, hx111_0⟩ := Kd.at_bool (Kd.R_reads' HO_7.out).2.2 x8_1 p111 q111
                (try rw [← Nbq28.out] at hx111_0)
                obtain rfl : (⟨go14, 0, none⟩ : Addr) = ad111 := (by injection e111)
                (first | simp only [add_plain] at hx111_0 | simp only [add_at] at hx111_0 | simp only [Addr.add, Nat.zero_add] at hx111_0 | skip)
                replace p111 := eq_true p111
                replace q111 := eq_true q111
                have p30 : 0 ≤ (x8_1 : Int) := of_decide_eq_true (by first | (with_reducible assumption) | assumption)
                have q30 : (x8_1 : Int) < ((x7_2.length : Int) : Int) := of_decide_eq_true (by first | (with_reducible assumption) | assumption)
                obtain ⟨hx30_0, hf30_0⟩ := Kd.R_celln false HO_7.out (x8_1 : Int) p30 q30
                replace p30 := eq_true p30
                replace q30 := eq_true q30
                have HP32 := Kd.R_putn HO_7.out (x8_1 : Int) true
                rw [← Ny112.out] at HP32
                have HQ32 := am HP32
                clear HP32
                refine start_ (n := 23) (S := fun w' => w'.cell? ⟨go14, (x8_1).toNat, none⟩ = some (.bool true)) (ds := [22]) (bl 23 0) (by kernel_rfl) rfl rfl (hx111_0) (fun hHeld => ?_); refine with_tabW lambrequinref20_behind.tab10 lambrequinref20_behind.bits10 (fun HT_ HW_ => ?_)
                generalize wc.drew = w31 at HO_7 BK101 HB HQ32 hf30_0 hx111_0 hx30_0 hHeld ⊢
                refine pure_ (i := 0) (N := some 48) (v := ?_) (a' := ?_) (bl 23 1) rfl rfl (any_of HT_.out (by kernel_rfl)) (fun _ _ _ h => h) (Or.inl ⟨by rfl, ?_⟩) ?_ ?_
                rotate_left
                ·intro w'
                 go_simp
                 with_reducible rfl
                rotate_left
                ·simp only [Act.put, sA, sZ, sS, i64_w, i32_w]
                 rfl
                refine pure_ (i := 1) (N := some 49) (v := ?_) (a' := ?_) (bl 23 3) rfl rfl (any_of HT_.out (by kernel_rfl)) (fun _ _ _ h => h) (Or.inl ⟨by rfl, ?_⟩) ?_ ?_
                rotate_left
                ·intro w'
                 go_simp
                 with_reducible rfl
                rotate_left
                ·simp only [Act.put, sA, sZ, sS, i64_w, i32_w]
                 rfl
                refine pure_ (i := 2) (N := some 50) (v := ?_) (a' := ?_) (bl 23 7) rfl rfl (any_of HT_.out (by kernel_rfl)) (fun _ _ _ h => h) (Or.inl ⟨by rfl, ?_⟩) ?_ ?_
                rotate_left
                ·intro w'
                 go_simp
                 with_reducible rfl
                rotate_left
                ·simp only [Act.put, sA, sZ, sS, i64_w, i32_w]
                 rfl
                refine pure_ (i := 3) (N := some 51) (v := ?_) (a' := ?_) (bl 23 15) rfl rfl (any_of HT_.out (by kernel_rfl)) (fun _ _ _ h => h) (Or.inl ⟨by rfl, ?_⟩) ?_ ?_
                rotate_left
                ·intro w'
                 go_simp
                 with_reducible rfl
                rotate_left
                ·simp only [Act.put, sA, sZ, sS, i64_w, i32_w]
                 rfl
                refine pure_ (i := 4) (N := some 52) (v := ?_) (a' := ?_) (bl 23 31) rfl rfl (any_of HT_.out (by kernel_rfl)) (fun _ _ _ h => h) (Or.inl ⟨by rfl, ?_⟩) ?_ ?_
                rotate_left
                ·intro w'
                 go_simp
                 with_reducible rfl
                rotate_left
                ·simp only [Act.put, sA, sZ, sS, i64_w, i32_w]
                 rfl
                refine take_ (i := 5) (N := some 53) (v := ?_) (a' := ?_) (bl 23 63) rfl rfl (take_ofW HT_.out HW_.out (by kernel_rfl)) (fun _ _ _ h => h) (Or.inl ⟨by rfl, ?_⟩) hHeld ?_ ?_
                rotate_left
                ·intro w' s0
                 go_simp
                 with_reducible rfl
                rotate_left
                ·simp only [Act.put, sA, sZ, sS, i64_w, i32_w]
                 rfl
                refine pure_ (i := 6) (N := some 54) (v := ?_) (a' := ?_) (bl 23 127) rfl rfl (any_of HT_.out (by kernel_rfl)) (fun _ _ _ h => h) (Or.inl ⟨by rfl, ?_⟩) ?_ ?_
                rotate_left
                ·intro w'
                 go_simp
                 with_reducible rfl
                rotate_left
                ·simp only [Act.put, sA, sZ, sS, i64_w, i32_w]
                 rfl
                refine pure_ (i := 7) (N := some 55) (v := undef) (a' := ?_) (bl 23 255) rfl rfl (any_of HT_.out (by kernel_rfl)) (fun _ _ _ h => h) (Or.inr ⟨by rfl, rfl⟩) ?_ ?_
                rotate_left
                ·simp only [Act.put, sA, sZ, sS, i64_w, i32_w]
                 rfl
                refine pure_ (i := 8) (N := some 56) (v := undef) (a' := ?_) (bl 23 511) rfl rfl (any_of HT_.out (by kernel_rfl)) (fun _ _ _ h => h) (Or.inr ⟨by rfl, rfl⟩) ?_ ?_
                rotate_left
                ·simp only [Act.put, sA, sZ, sS, i64_w, i32_w]
                 rfl
                refine pure_ (i := 9) (N := some 57) (v := undef) (a' := ?_) (bl 23 1023) rfl rfl (any_of HT_.out (by kernel_rfl)) (fun _ _ _ h => h) (Or.inr ⟨by rfl, rfl⟩) ?_ ?_
                rotate_left
                ·simp only [Act.put, sA, sZ, sS, i64_w, i32_w]
                 rfl
                refine pure_ (i := 10) (N := some 58) (v := undef) (a' := ?_) (bl 23 2047) rfl rfl (any_of HT_.out (by kernel_rfl)) (fun _ _ _ h => h) (Or.inr ⟨by rfl, rfl⟩) ?_ ?_
                rotate_left
                ·simp only [Act.put, sA, sZ, sS, i64_w, i32_w]
                 rfl
                refine pure_ (i := 11) (N := some 59) (v := undef) (a' := ?_) (bl 23 4095) rfl rfl (any_of HT_.out (by kernel_rfl)) (fun _ _ _ h => h) (Or.inr ⟨by rfl, rfl⟩) ?_ ?_
                rotate_left
                ·simp only [Act.put, sA, sZ, sS, i64_w, i32_w]
                 rfl
                refine pure_ (i := 12) (N := some 60) (v := undef) (a' := ?_) (bl 23 8191) rfl rfl (any_of HT_.out (by kernel_rfl)) (fun _ _ _ h => h) (Or.inr ⟨by rfl, rfl⟩) ?_ ?_
                rotate_left
                ·simp only [Act.put, sA, sZ, sS, i64_w, i32_w]
                 rfl
                refine pure_ (i := 13) (N := some 61) (v := undef) (a' := ?_) (bl 23 16383) rfl rfl (any_of HT_.out (by kernel_rfl)) (fun _ _ _ h => h) (Or.inr ⟨by rfl, rfl⟩) ?_ ?_
                rotate_left
                ·simp only [Act.put, sA, sZ, sS, i64_w, i32_w]
                 rfl
                refine pure_ (i := 14) (N := some 62) (v := undef) (a' := ?_) (bl 23 32767) rfl rfl (any_of HT_.out (by kernel_rfl)) (fun _ _ _ h => h) (Or.inr ⟨by rfl, rfl⟩) ?_ ?_
                rotate_left
                ·simp only [Act.put, sA, sZ, sS, i64_w, i32_w]
                 rfl
                refine pure_ (i := 15) (N := some 63) (v := undef) (a' := ?_) (bl 23 65535) rfl rfl (any_of HT_.out (by kernel_rfl)) (fun _ _ _ h => h) (Or.inr ⟨by rfl, rfl⟩) ?_ ?_
                rotate_left
                ·simp only [Act.put, sA, sZ, sS, i64_w, i32_w]
                 rfl
                refine pure_ (i := 16) (N := some 64) (v := undef) (a' := ?_) (bl 23 131071) rfl rfl (any_of HT_.out (by kernel_rfl)) (fun _ _ _ h => h) (Or.inr ⟨by rfl, rfl⟩) ?_ ?_
                rotate_left
                ·simp only [Act.put, sA, sZ, sS, i64_w, i32_w]
                 rfl
                refine pure_ (i := 17) (N := some 65) (v := undef) (a' := ?_) (bl 23 262143) rfl rfl (any_of HT_.out (by kernel_rfl)) (fun _ _ _ h => h) (Or.inr ⟨by rfl, rfl⟩) ?_ ?_
                rotate_left
                ·simp only [Act.put, sA, sZ, sS, i64_w, i32_w]
                 rfl
                refine pure_ (i := 18) (N := some 66) (v := undef) (a' := ?_) (bl 23 524287) rfl rfl (any_of HT_.out (by kernel_rfl)) (fun _ _ _ h => h) (Or.inr ⟨by rfl, rfl⟩) ?_ ?_
                rotate_left
                ·simp only [Act.put, sA, sZ, sS, i64_w, i32_w]
                 rfl
                refine pure_ (i := 19) (N := some 67) (v := undef) (a' := ?_) (bl 23 1048575) rfl rfl (any_of HT_.out (by kernel_rfl)) (fun _ _ _ h => h) (Or.inr ⟨by rfl, rfl⟩) ?_ ?_
                rotate_left
                ·simp only [Act.put, sA, sZ, sS, i64_w, i32_w]
                 rfl
                refine pure_ (i := 20) (N := some 68) (v := ?_) (a' := ?_) (bl 23 2097151) rfl rfl (any_of HT_.out (by kernel_rfl)) (fun _ _ _ h => h) (Or.inl ⟨by rfl, ?_⟩) ?_ ?_
                rotate_left
                ·intro w'
                 go_simp
                 with_reducible rfl
                rotate_left
                ·simp only [Act.put, sA, sZ, sS, i64_w, i32_w]
                 rfl
                refine pure_ (i := 21) (N := some 69) (v := ?_) (a' := ?_) (bl 23 4194303) rfl rfl (any_of HT_.out (by kernel_rfl)) (fun _ _ _ h => h) (Or.inl ⟨by rfl, ?_⟩) ?_ ?_
                rotate_left
                ·intro w'
                 go_simp
                 with_reducible rfl
                rotate_left
                ·simp only [Act.put, sA, sZ, sS, i64_w, i32_w]
                 rfl
                refine last_ (i := 22) (N := none) (bl 23 8388607) rfl rfl (one_of HT_.out (by kernel_rfl)) (by decide) (fun K hK => ?_)
                refine skip_ (w1 := ?_) (by rfl) rfl ?_ ?_
                rotate_left
                ·go_simp
                 rfl
                refine hK.out _ _ ?_
                clear hK K
                refine done_ (done_of HT_.out (by kernel_rfl)) ?_
                try go_wp2
                (try simp only [← hl7_2])
                go_roundg kj19
                case measure => have := HK1.out; have := HK2.out; have := HJ19.out; omega
                case rel => exact ⟨(y112), (wrap64 (x9_2 + 1)), (by first | rfl | (simp; done) | (simp [*]; done)), H', ⟨by have := HK1.out; have := HK2.out; have := HJ19.out; omega⟩, ⟨by (try simp only [hl7_2]); (with_reducible repeat (first | apply Ra | apply Rn | apply Rd)); exact HQ32.out⟩, ⟨by (try simp only [hl7_2]); (with_reducible repeat (first | refine bN ?_ _ | refine bD ?_ | refine bA ?_ _)); refine blk_far ?_ (by have h_ := Kd.R_ne HO_7.out BK101.out (by decide); intro e_; exact h_ (by rw [e_]; rfl)) _; (with_reducible repeat (first | refine bN ?_ _ | refine bD ?_ | refine bA ?_ _)); exact BK101.out⟩, ⟨by repeat (first | (with_reducible first | exact HB.out | apply lA | apply lN | apply lD | refine lS ?_ GB14.out | refine lS ?_ GE101.out) | exact HB.out)⟩⟩
               ·replace c29 := Bool.eq_false_iff.mpr c29
                subst c29
                have H1 : (if 0 ≤ x9_2 then (if x9_2 < (l2.length : Int) then (if rdOf false l2 x9_2 = true then ((lambrequinref20_Uses.f kj19 a0_0 a0_1 a0_2 a0_3 a0_4 a0_5 a0_6 a0_7).bind fun t114 => (if x9_2 < (l1.length : Int) then ((lambrequinref09_In.f kj19 t114 (rdOf ByteArray.empty l1 x9_2)).bind fun t118 => (lambrequinref20_behind.l1 kj19 l1 l2 (x7_2.set (x8_1 : Int).toNat t118) x8_1 (wrap64 (x9_2 + 1)) a0_0 a0_1 a0_2 a0_3 a0_4 a0_5 a0_6 a0_7)) else (none))) else (lambrequinref20_behind.l1 kj19 l1 l2 (x7_2.set (x8_1 : Int).toNat false) x8_1 (wrap64 (x9_2 + 1)) a0_0 a0_1 a0_2 a0_3 a0_4 a0_5 a0_6 a0_7)) else (none)) else (none)) = some r := by rw [if_neg (show ¬ (false = true) by decide)] at H; exact H
                clear H
                have H := H1
                clear H1
                by_cases c33 : 0 ≤ x9_2
                ·rw [if_pos c33] at H
                 have c33b0 : decide (0 ≤ x9_2) = true := decide_eq_true c33
                 clear c33
                 by_cases c34 : x9_2 < (l2.length : Int)
                 ·rw [if_pos c34] at H
                  have c34b0 : decide (x9_2 < (l2.length : Int)) = true := decide_eq_true c34
                  clear c34
                  obtain ⟨bq35, hbq35⟩ : ∃ b_ : Bool, b_ = (rdOf false l2 x9_2) := ⟨_, rfl⟩
                  replace H : (if bq35 = true then ((lambrequinref20_Uses.f kj19 a0_0 a0_1 a0_2 a0_3 a0_4 a0_5 a0_6 a0_7).bind fun t114 => (if x9_2 < (l1.length : Int) then ((lambrequinref09_In.f kj19 t114 (rdOf ByteArray.empty l1 x9_2)).bind fun t118 => (lambrequinref20_behind.l1 kj19 l1 l2 (x7_2.set (x8_1 : Int).toNat t118) x8_1 (wrap64 (x9_2 + 1)) a0_0 a0_1 a0_2 a0_3 a0_4 a0_5 a0_6 a0_7)) else (none))) else (lambrequinref20_behind.l1 kj19 l1 l2 (x7_2.set (x8_1 : Int).toNat false) x8_1 (wrap64 (x9_2 + 1)) a0_0 a0_1 a0_2 a0_3 a0_4 a0_5 a0_6 a0_7)) = some r := by rw [← hbq35] at H; exact H
                  have Nbq35 := am hbq35
                  clear hbq35
                  by_cases c36 : bq35 = true
                  ·subst c36
                   have H1 : ((lambrequinref20_Uses.f kj19 a0_0 a0_1 a0_2 a0_3 a0_4 a0_5 a0_6 a0_7).bind fun t114 => (if x9_2 < (l1.length : Int) then ((lambrequinref09_In.f kj19 t114 (rdOf ByteArray.empty l1 x9_2)).bind fun t118 => (lambrequinref20_behind.l1 kj19 l1 l2 (x7_2.set (x8_1 : Int).toNat t118) x8_1 (wrap64 (x9_2 + 1)) a0_0 a0_1 a0_2 a0_3 a0_4 a0_5 a0_6 a0_7)) else (none))) = some r := by rw [if_pos rfl] at H; exact H
                   clear H
                   have H := H1
                   clear H1
                   replace H := Option.bind_eq_some_iff.mp H
                   obtain ⟨t114, A370, H⟩ := H
                   replace H : (if x9_2 < (l1.length : Int) then ((lambrequinref09_In.f kj19 t114 (rdOf ByteArray.empty l1 x9_2)).bind fun t118 => (lambrequinref20_behind.l1 kj19 l1 l2 (x7_2.set (x8_1 : Int).toNat t118) x8_1 (wrap64 (x9_2 + 1)) a0_0 a0_1 a0_2 a0_3 a0_4 a0_5 a0_6 a0_7)) else (none)) = some r := H
                   have A37 := am A370
                   clear A370
                   by_cases c38 : x9_2 < (l1.length : Int)
                   ·rw [if_pos c38] at H
                    have c38b0 : decide (x9_2 < (l1.length : Int)) = true := decide_eq_true c38
                    clear c38
                    replace H := Option.bind_eq_some_iff.mp H
                    obtain ⟨t118, A390, H⟩ := H
                    replace H : (lambrequinref20_behind.l1 kj19 l1 l2 (x7_2.set (x8_1 : Int).toNat t118) x8_1 (wrap64 (x9_2 + 1)) a0_0 a0_1 a0_2 a0_3 a0_4 a0_5 a0_6 a0_7) = some r := H
                    have A39 := am A390
                    clear A390
                    obtain ⟨y119, hy119⟩ : ∃ y_ : List Bool, y_ = (x7_2.set (x8_1 : Int).toNat t118) := ⟨_, rfl⟩
                    replace H : (lambrequinref20_behind.l1 kj19 l1 l2 y119 x8_1 (wrap64 (x9_2 + 1)) a0_0 a0_1 a0_2 a0_3 a0_4 a0_5 a0_6 a0_7) = some r := by first | (rw [hy119]; with_reducible exact H) | (have H2_ := (Option.bind_some _ _).symm.trans H; rw [hy119]; with_reducible exact H2_) | (have H2_ := (Option.bind_some _ _).symm.trans H; with_reducible exact H2_) | with_reducible exact H | (rw [hy119]; exact H) | exact H
                    have Ny119 := am hy119
                    clear hy119
                    have H' := am H
                    clear H
                    try go_wp2
                    replace HO_7 := am (Kd.R_drew HO_7.out)
                    replace BK101 := am (blk_drew BK101.out)
                    replace HB := am (below_drew1 HB.out)
                    have p111 : 0 ≤ (x8_1 : Int) := of_decide_eq_true (by first | (with_reducible assumption) | assumption)
                    have q111 : x8_1 < (x7_2.length : Int) := of_decide_eq_true (by first | (with_reducible assumption) | assumption)
                    obtain ⟨ad111, e111, hx111_0⟩ := Kd.at_bool (Kd.R_reads' HO_7.out).2.2 x8_1 p111 q111
                    (try rw [← Nbq28.out] at hx111_0)
                    (try rw [← Nbq35.out] at hx111_0)
                    obtain rfl : (⟨go14, 0, none⟩ : Addr) = ad111 := (by injection e111)
                    (first | simp only [add_plain] at hx111_0 | simp only [add_at] at hx111_0 | simp only [Addr.add, Nat.zero_add] at hx111_0 | skip)
                    replace p111 := eq_true p111
                    replace q111 := eq_true q111
                    have p113 : 0 ≤ (x9_2 : Int) := of_decide_eq_true (by first | (with_reducible assumption) | assumption)
                    have q113 : x9_2 < (l2.length : Int) := of_decide_eq_true (by first | (with_reducible assumption) | assumption)
                    obtain ⟨ad113, e113, hx113_0⟩ := Kd.at_bool HR2.out x9_2 p113 q113
                    have hw113_0 := hx113_0
                    (try rw [← Nbq28.out] at hx113_0)
                    (try rw [← Nbq28.out] at hw113_0)
                    (try rw [← Nbq35.out] at hx113_0)
                    (try rw [← Nbq35.out] at hw113_0)
                    cases e113
                    replace hx113_0 := (HB.out.cell (blt_ hx113_0)).trans hx113_0
                    replace p113 := eq_true p113
                    replace q113 := eq_true q113
                    have p117 : 0 ≤ (x9_2 : Int) := of_decide_eq_true (by first | (with_reducible assumption) | assumption)
                    have q117 : x9_2 < (l1.length : Int) := of_decide_eq_true (by first | (with_reducible assumption) | assumption)
                    obtain ⟨ad117, e117, hx117_0⟩ := Kd.at_string HR1.out x9_2 p117 q117
                    have hw117_0 := hx117_0
                    obtain rfl : ad108 = ad117 := (by injection e117)
                    replace hx117_0 := (HB.out.cell (blt_ hx117_0)).trans hx117_0
                    replace p117 := eq_true p117
                    replace q117 := eq_true q117
                    refine start_ (n := 23) (S := fun w' => w'.cell? ⟨gb101, 0, none⟩ = some (.int .i64 a0_0) ∧ w'.cell? ⟨gb101, 1, none⟩ = some (.string a0_1) ∧ w'.cell? ⟨gb101, 2, none⟩ = some (.string a0_2) ∧ w'.cell? ⟨gb101, 3, none⟩ = some (.string a0_3) ∧ w'.cell? ⟨gb101, 4, none⟩ = some (.string a0_4) ∧ w'.cell? ⟨gb101, 5, none⟩ = some (.int .i64 a0_5) ∧ w'.cell? ⟨gb101, 6, none⟩ = some (.int .i64 a0_6) ∧ w'.cell? ⟨gb101, 7, none⟩ = some (.int .i64 a0_7) ∧ w'.cell? ⟨go14, (x8_1).toNat, none⟩ = some (.bool false) ∧ w'.cell? (ad113.add (x9_2).toNat) = some (.bool true) ∧ w'.cell? (ad108.add (x9_2).toNat) = some (.string (rdOf ByteArray.empty l1 x9_2))) (ds := [22]) (bl 23 0) (by kernel_rfl) rfl rfl ⟨(blk_cell BK101.out 0).trans rfl, (blk_cell BK101.out 1).trans rfl, (blk_cell BK101.out 2).trans rfl, (blk_cell BK101.out 3).trans rfl, (blk_cell BK101.out 4).trans rfl, (blk_cell BK101.out 5).trans rfl, (blk_cell BK101.out 6).trans rfl, (blk_cell BK101.out 7).trans rfl, hx111_0, ((HB.out.cell (blt_ hw113_0)).trans hw113_0), ((HB.out.cell (blt_ hw117_0)).trans hw117_0)⟩ (fun hHeld => ?_); refine with_tabW lambrequinref20_behind.tab10 lambrequinref20_behind.bits10 (fun HT_ HW_ => ?_)
                    generalize wc.drew = w41 at HO_7 BK101 HB hx111_0 hx113_0 hx117_0 hHeld ⊢
                    refine pure_ (i := 0) (N := some 48) (v := ?_) (a' := ?_) (bl 23 1) rfl rfl (any_of HT_.out (by kernel_rfl)) (fun _ _ _ h => h) (Or.inl ⟨by rfl, ?_⟩) ?_ ?_
                    rotate_left
                    ·intro w'
                     go_simp
                     with_reducible rfl
                    rotate_left
                    ·simp only [Act.put, sA, sZ, sS, i64_w, i32_w]
                     rfl
                    refine pure_ (i := 1) (N := some 49) (v := ?_) (a' := ?_) (bl 23 3) rfl rfl (any_of HT_.out (by kernel_rfl)) (fun _ _ _ h => h) (Or.inl ⟨by rfl, ?_⟩) ?_ ?_
                    rotate_left
                    ·intro w'
                     go_simp
                     with_reducible rfl
                    rotate_left
                    ·simp only [Act.put, sA, sZ, sS, i64_w, i32_w]
                     rfl
                    refine pure_ (i := 2) (N := some 50) (v := ?_) (a' := ?_) (bl 23 7) rfl rfl (any_of HT_.out (by kernel_rfl)) (fun _ _ _ h => h) (Or.inl ⟨by rfl, ?_⟩) ?_ ?_
                    rotate_left
                    ·intro w'
                     go_simp
                     with_reducible rfl
                    rotate_left
                    ·simp only [Act.put, sA, sZ, sS, i64_w, i32_w]
                     rfl
                    refine pure_ (i := 3) (N := some 51) (v := ?_) (a' := ?_) (bl 23 15) rfl rfl (any_of HT_.out (by kernel_rfl)) (fun _ _ _ h => h) (Or.inl ⟨by rfl, ?_⟩) ?_ ?_
                    rotate_left
                    ·intro w'
                     go_simp
                     with_reducible rfl
                    rotate_left
                    ·simp only [Act.put, sA, sZ, sS, i64_w, i32_w]
                     rfl
                    refine pure_ (i := 4) (N := some 52) (v := ?_) (a' := ?_) (bl 23 31) rfl rfl (any_of HT_.out (by kernel_rfl)) (fun _ _ _ h => h) (Or.inl ⟨by rfl, ?_⟩) ?_ ?_
                    rotate_left
                    ·intro w'
                     go_simp
                     with_reducible rfl
                    rotate_left
                    ·simp only [Act.put, sA, sZ, sS, i64_w, i32_w]
                     rfl
                    refine take_ (i := 5) (N := some 53) (v := ?_) (a' := ?_) (bl 23 63) rfl rfl (take_ofW HT_.out HW_.out (by kernel_rfl)) (fun _ _ _ h => h) (Or.inl ⟨by rfl, ?_⟩) hHeld ?_ ?_
                    rotate_left
                    ·rintro w' ⟨s0, s1, s2, s3, s4, s5, s6, s7, s8, s9, s10⟩
                     go_simp
                     with_reducible rfl
                    rotate_left
                    ·simp only [Act.put, sA, sZ, sS, i64_w, i32_w]
                     rfl
                    refine pure_ (i := 6) (N := some 54) (v := ?_) (a' := ?_) (bl 23 127) rfl rfl (any_of HT_.out (by kernel_rfl)) (fun _ _ _ h => h) (Or.inl ⟨by rfl, ?_⟩) ?_ ?_
                    rotate_left
                    ·intro w'
                     go_simp
                     with_reducible rfl
                    rotate_left
                    ·simp only [Act.put, sA, sZ, sS, i64_w, i32_w]
                     rfl
                    refine pure_ (i := 7) (N := some 55) (v := ?_) (a' := ?_) (bl 23 255) rfl rfl (any_of HT_.out (by kernel_rfl)) (fun _ _ _ h => h) (Or.inl ⟨by rfl, ?_⟩) ?_ ?_
                    rotate_left
                    ·intro w'
                     go_simp
                     with_reducible rfl
                    rotate_left
                    ·simp only [Act.put, sA, sZ, sS, i64_w, i32_w]
                     rfl
                    refine pure_ (i := 8) (N := some 56) (v := ?_) (a' := ?_) (bl 23 511) rfl rfl (any_of HT_.out (by kernel_rfl)) (fun _ _ _ h => h) (Or.inl ⟨by rfl, ?_⟩) ?_ ?_
                    rotate_left
                    ·intro w'
                     go_simp
                     with_reducible rfl
                    rotate_left
                    ·simp only [Act.put, sA, sZ, sS, i64_w, i32_w]
                     rfl
                    refine pure_ (i := 9) (N := some 57) (v := ?_) (a' := ?_) (bl 23 1023) rfl rfl (any_of HT_.out (by kernel_rfl)) (fun _ _ _ h => h) (Or.inl ⟨by rfl, ?_⟩) ?_ ?_
                    rotate_left
                    ·intro w'
                     go_simp
                     with_reducible rfl
                    rotate_left
                    ·simp only [Act.put, sA, sZ, sS, i64_w, i32_w]
                     rfl
                    refine take_ (i := 10) (N := some 58) (v := ?_) (a' := ?_) (bl 23 2047) rfl rfl (take_ofW HT_.out HW_.out (by kernel_rfl)) (fun _ _ _ h => h) (Or.inl ⟨by rfl, ?_⟩) hHeld ?_ ?_
                    rotate_left
                    ·rintro w' ⟨s0, s1, s2, s3, s4, s5, s6, s7, s8, s9, s10⟩
                     go_simp
                     with_reducible rfl
                    rotate_left
                    ·simp only [Act.put, sA, sZ, sS, i64_w, i32_w]
                     rfl
                    refine pure_ (i := 11) (N := some 59) (v := ?_) (a' := ?_) (bl 23 4095) rfl rfl (any_of HT_.out (by kernel_rfl)) (fun _ _ _ h => h) (Or.inl ⟨by rfl, ?_⟩) ?_ ?_
                    rotate_left
                    ·intro w'
                     go_simp
                     with_reducible rfl
                    rotate_left
                    ·simp only [Act.put, sA, sZ, sS, i64_w, i32_w]
                     rfl
                    refine pure_ (i := 14) (N := some 62) (v := ?_) (a' := ?_) (bl 23 20479) rfl rfl (any_of HT_.out (by kernel_rfl)) (fun _ _ _ h => h) (Or.inl ⟨by rfl, ?_⟩) ?_ ?_
                    rotate_left
                    ·intro w'
                     go_simp
                     with_reducible rfl
                    rotate_left
                    ·simp only [Act.put, sA, sZ, sS, i64_w, i32_w]
                     rfl
                    refine pure_ (i := 15) (N := some 63) (v := ?_) (a' := ?_) (bl 23 53247) rfl rfl (any_of HT_.out (by kernel_rfl)) (fun _ _ _ h => h) (Or.inl ⟨by rfl, ?_⟩) ?_ ?_
                    rotate_left
                    ·intro w'
                     go_simp
                     with_reducible rfl
                    rotate_left
                    ·simp only [Act.put, sA, sZ, sS, i64_w, i32_w]
                     rfl
                    refine pure_ (i := 16) (N := some 64) (v := ?_) (a' := ?_) (bl 23 118783) rfl rfl (any_of HT_.out (by kernel_rfl)) (fun _ _ _ h => h) (Or.inl ⟨by rfl, ?_⟩) ?_ ?_
                    rotate_left
                    ·intro w'
                     go_simp
                     with_reducible rfl
                    rotate_left
                    ·simp only [Act.put, sA, sZ, sS, i64_w, i32_w]
                     rfl
                    refine take_ (i := 12) (N := some 60) (v := ?_) (a' := ?_) (bl 23 122879) rfl rfl (take_ofW HT_.out HW_.out (by kernel_rfl)) (fun _ _ _ h => h) (Or.inl ⟨by rfl, ?_⟩) hHeld ?_ ?_
                    rotate_left
                    ·rintro w' ⟨s0, s1, s2, s3, s4, s5, s6, s7, s8, s9, s10⟩
                     go_simp
                     with_reducible rfl
                    rotate_left
                    ·simp only [Act.put, sA, sZ, sS, i64_w, i32_w]
                     rfl
                    refine take_ (i := 17) (N := some 65) (v := ?_) (a' := ?_) (bl 23 253951) rfl rfl (take_ofW HT_.out HW_.out (by kernel_rfl)) (fun _ _ _ h => h) (Or.inl ⟨by rfl, ?_⟩) hHeld ?_ ?_
                    rotate_left
                    ·rintro w' ⟨s0, s1, s2, s3, s4, s5, s6, s7, s8, s9, s10⟩
                     go_simp
                     with_reducible rfl
                    rotate_left
                    ·simp only [Act.put, sA, sZ, sS, i64_w, i32_w]
                     rfl
                    refine one_ (i := 13) (N := some 61) (bl 23 262143) rfl rfl (one_of HT_.out (by kernel_rfl)) (by decide) (fun K hK => ?_)
                    refine goes_ Try.func30 (by kernel_rfl) rfl #[.agg #[.int .i64 a0_0, .string a0_1, .string a0_2, .string a0_3, .string a0_4, .int .i64 a0_5, .int .i64 a0_6, .int .i64 a0_7]] (by rfl) rfl rfl (by (try simp only [List.map_toArray, List.map_cons, List.map_nil]); first | done | rfl | (simp only [List.length_drop, List.length_take]; rfl)) ?_
                    with_reducible refine (lambrequinref20_Uses.calls kj19 a0_0 a0_1 a0_2 a0_3 a0_4 a0_5 a0_6 a0_7 t114 _ A37.out).mono ?_
                    rintro e w42 ⟨v115, rfl, ho0, hb⟩
                    have HS8_ := (hb.cell (blt_ (hHeld.2.2.2.2.2.2.2.2.1))).trans (hHeld.2.2.2.2.2.2.2.2.1)
                    refine ⟨_, rfl, ?_⟩
                    replace HO_7 := am (Kd.R_below (by (with_reducible repeat (first | apply Ra | apply Rn | apply Rd)); exact HO_7.out) hb)
                    have HO116 := am (Kd.R_lower ho0 (below_size (by repeat (first | (with_reducible first | exact HB.out | apply lA | apply lN | apply lD | refine lS ?_ GE101.out) | exact HB.out))))
                    replace BK101 := am (blk_below (g := gb101) (o := .cells #[.int .i64 a0_0, .string a0_1, .string a0_2, .string a0_3, .string a0_4, .int .i64 a0_5, .int .i64 a0_6, .int .i64 a0_7] 30 (0, 0)) (by (with_reducible repeat (first | refine bN ?_ _ | refine bD ?_ | refine bA ?_ _)); exact BK101.out) hb)
                    replace HB := am (below_step (by repeat (first | (with_reducible first | exact HB.out | apply lA | apply lN | apply lD | refine lS ?_ GE101.out) | exact HB.out)) hb)
                    (try clear hb)
                    (try clear hb2)
                    (try clear hk)
                    (try clear hi)
                    (try clear ho0)
                    obtain ⟨Ao43, co43, eo43⟩ := Kd.R_slice HO116.out
                    (first | subst eo43 | (injection eo43 with f1_ f2_ f3_; have f4_ := f1_.symm; have f5_ := f3_.symm; clear f1_ f2_ f3_; subst f4_; subst f5_))
                    refine hK.out _ _ ⟨(blk_cell BK101.out 0).trans rfl, (blk_cell BK101.out 1).trans rfl, (blk_cell BK101.out 2).trans rfl, (blk_cell BK101.out 3).trans rfl, (blk_cell BK101.out 4).trans rfl, (blk_cell BK101.out 5).trans rfl, (blk_cell BK101.out 6).trans rfl, (blk_cell BK101.out 7).trans rfl, HS8_, ((HB.out.cell (blt_ hw113_0)).trans hw113_0), ((HB.out.cell (blt_ hw117_0)).trans hw117_0)⟩ (fun hHeld => ?_)
                    clear hK K
                    refine norm_ (a' := ?_) ?_ ?_
                    rotate_left
                    ·show Act.put _ (some 61) _ = _
                     simp only [Act.put, sA, sZ, sS, i64_w, i32_w]
                     rfl
                    refine one_ (i := 18) (N := some 66) (bl 23 524287) rfl rfl (one_of HT_.out (by kernel_rfl)) (by decide) (fun K hK => ?_)
                    refine goes_ Try.func21 (by kernel_rfl) rfl #[.slice Ao43 t114.length co43, .string (rdOf ByteArray.empty l1 x9_2)] (by rfl) rfl rfl (by (try simp only [List.map_toArray, List.map_cons, List.map_nil]); first | done | rfl | (simp only [List.length_drop, List.length_take]; rfl)) ?_
                    with_reducible refine (lambrequinref09_In.calls kj19 _ _ t114 (rdOf ByteArray.empty l1 x9_2) t118 _ ?side1 ?side2 A39.out).mono ?_
                    (case side1 => repeat (first | exact (Kd.R_reads' HO116.out).2.2 | (with_reducible refine Kd.C_alloc ?_ _) | (with_reducible refine Kd.C_drewN ?_ _) | (with_reducible refine Kd.C_drew ?_)))
                    (case side2 => exact (Kd.R_reads' HO116.out).2.1)
                    rintro e w' ⟨rfl, ⟨nd, rfl⟩⟩
                    refine ⟨_, rfl, ?_⟩
                    have p40 : 0 ≤ (x8_1 : Int) := of_decide_eq_true (by first | (with_reducible assumption) | assumption)
                    have q40 : (x8_1 : Int) < ((x7_2.length : Int) : Int) := of_decide_eq_true (by first | (with_reducible assumption) | assumption)
                    obtain ⟨hx40_0, hf40_0⟩ := Kd.R_celln false HO_7.out (x8_1 : Int) p40 q40
                    replace p40 := eq_true p40
                    replace q40 := eq_true q40
                    have HP44 := Kd.R_putn HO_7.out (x8_1 : Int) t118
                    rw [← Ny119.out] at HP44
                    have HQ44 := am HP44
                    clear HP44
                    refine hK.out _ _ ⟨(blk_cell BK101.out 0).trans rfl, (blk_cell BK101.out 1).trans rfl, (blk_cell BK101.out 2).trans rfl, (blk_cell BK101.out 3).trans rfl, (blk_cell BK101.out 4).trans rfl, (blk_cell BK101.out 5).trans rfl, (blk_cell BK101.out 6).trans rfl, (blk_cell BK101.out 7).trans rfl, hHeld.2.2.2.2.2.2.2.2.1, ((HB.out.cell (blt_ hw113_0)).trans hw113_0), ((HB.out.cell (blt_ hw117_0)).trans hw117_0)⟩ (fun hHeld => ?_)
                    clear hK K
                    refine norm_ (a' := ?_) ?_ ?_
                    rotate_left
                    ·show Act.put _ (some 66) _ = _
                     simp only [Act.put, sA, sZ, sS, i64_w, i32_w]
                     rfl
                    refine pure_ (i := 19) (N := some 67) (v := ?_) (a' := ?_) (bl 23 1048575) rfl rfl (any_of HT_.out (by kernel_rfl)) (fun _ _ _ h => h) (Or.inl ⟨by rfl, ?_⟩) ?_ ?_
                    rotate_left
                    ·intro w'
                     go_simp
                     with_reducible rfl
                    rotate_left
                    ·simp only [Act.put, sA, sZ, sS, i64_w, i32_w]
                     rfl
                    refine pure_ (i := 20) (N := some 68) (v := ?_) (a' := ?_) (bl 23 2097151) rfl rfl (any_of HT_.out (by kernel_rfl)) (fun _ _ _ h => h) (Or.inl ⟨by rfl, ?_⟩) ?_ ?_
                    rotate_left
                    ·intro w'
                     go_simp
                     with_reducible rfl
                    rotate_left
                    ·simp only [Act.put, sA, sZ, sS, i64_w, i32_w]
                     rfl
                    refine pure_ (i := 21) (N := some 69) (v := ?_) (a' := ?_) (bl 23 4194303) rfl rfl (any_of HT_.out (by kernel_rfl)) (fun _ _ _ h => h) (Or.inl ⟨by rfl, ?_⟩) ?_ ?_
                    rotate_left
                    ·intro w'
                     go_simp
                     with_reducible rfl
                    rotate_left
                    ·simp only [Act.put, sA, sZ, sS, i64_w, i32_w]
                     rfl
                    refine last_ (i := 22) (N := none) (bl 23 8388607) rfl rfl (one_of HT_.out (by kernel_rfl)) (by decide) (fun K hK => ?_)
                    refine skip_ (w1 := ?_) (by rfl) rfl ?_ ?_
                    rotate_left
                    ·go_simp
                     rfl
                    refine hK.out _ _ ?_
                    clear hK K
                    refine done_ (done_of HT_.out (by kernel_rfl)) ?_
                    try go_wp2
                    (try simp only [← hl7_2])
                    go_roundg kj19
                    case measure => have := HK1.out; have := HK2.out; have := HJ19.out; omega
                    case rel => exact ⟨(y119), (wrap64 (x9_2 + 1)), (by first | rfl | (simp; done) | (simp [*]; done)), H', ⟨by have := HK1.out; have := HK2.out; have := HJ19.out; omega⟩, ⟨by (try simp only [hl7_2]); (with_reducible repeat (first | apply Ra | apply Rn | apply Rd)); exact HQ44.out⟩, ⟨by (try simp only [hl7_2]); (with_reducible repeat (first | refine bN ?_ _ | refine bD ?_ | refine bA ?_ _)); refine blk_far ?_ (by have h_ := Kd.R_ne HO_7.out BK101.out (by decide); intro e_; exact h_ (by rw [e_]; rfl)) _; (with_reducible repeat (first | refine bN ?_ _ | refine bD ?_ | refine bA ?_ _)); exact BK101.out⟩, ⟨by repeat (first | (with_reducible first | exact HB.out | apply lA | apply lN | apply lD | refine lS ?_ GB14.out | refine lS ?_ GE101.out) | exact HB.out)⟩⟩
                   ·rw [if_neg c38] at H
                    exact absurd H (by simp)
                  ·replace c36 := Bool.eq_false_iff.mpr c36
                   subst c36
                   have H1 : (lambrequinref20_behind.l1 kj19 l1 l2 (x7_2.set (x8_1 : Int).toNat false) x8_1 (wrap64 (x9_2 + 1)) a0_0 a0_1 a0_2 a0_3 a0_4 a0_5 a0_6 a0_7) = some r := by rw [if_neg (show ¬ (false = true) by decide)] at H; exact H
                   clear H
                   have H := H1
                   clear H1
                   obtain ⟨y120, hy120⟩ : ∃ y_ : List Bool, y_ = (x7_2.set (x8_1 : Int).toNat false) := ⟨_, rfl⟩
                   replace H : (lambrequinref20_behind.l1 kj19 l1 l2 y120 x8_1 (wrap64 (x9_2 + 1)) a0_0 a0_1 a0_2 a0_3 a0_4 a0_5 a0_6 a0_7) = some r := by first | (rw [hy120]; with_reducible exact H) | (have H2_ := (Option.bind_some _ _).symm.trans H; rw [hy120]; with_reducible exact H2_) | (have H2_ := (Option.bind_some _ _).symm.trans H; with_reducible exact H2_) | with_reducible exact H | (rw [hy120]; exact H) | exact H
                   have Ny120 := am hy120
                   clear hy120
                   have H' := am H
                   clear H
                   try go_wp2
                   replace HO_7 := am (Kd.R_drew HO_7.out)
                   replace BK101 := am (blk_drew BK101.out)
                   replace HB := am (below_drew1 HB.out)
                   have p111 : 0 ≤ (x8_1 : Int) := of_decide_eq_true (by first | (with_reducible assumption) | assumption)
                   have q111 : x8_1 < (x7_2.length : Int) := of_decide_eq_true (by first | (with_reducible assumption) | assumption)
                   obtain ⟨ad111, e111, hx111_0⟩ := Kd.at_bool (Kd.R_reads' HO_7.out).2.2 x8_1 p111 q111
                   (try rw [← Nbq28.out] at hx111_0)
                   (try rw [← Nbq35.out] at hx111_0)
                   obtain rfl : (⟨go14, 0, none⟩ : Addr) = ad111 := (by injection e111)
                   (first | simp only [add_plain] at hx111_0 | simp only [add_at] at hx111_0 | simp only [Addr.add, Nat.zero_add] at hx111_0 | skip)
                   replace p111 := eq_true p111
                   replace q111 := eq_true q111
                   have p113 : 0 ≤ (x9_2 : Int) := of_decide_eq_true (by first | (with_reducible assumption) | assumption)
                   have q113 : x9_2 < (l2.length : Int) := of_decide_eq_true (by first | (with_reducible assumption) | assumption)
                   obtain ⟨ad113, e113, hx113_0⟩ := Kd.at_bool HR2.out x9_2 p113 q113
                   have hw113_0 := hx113_0
                   (try rw [← Nbq28.out] at hx113_0)
                   (try rw [← Nbq28.out] at hw113_0)
                   (try rw [← Nbq35.out] at hx113_0)
                   (try rw [← Nbq35.out] at hw113_0)
                   cases e113
                   replace hx113_0 := (HB.out.cell (blt_ hx113_0)).trans hx113_0
                   replace p113 := eq_true p113
                   replace q113 := eq_true q113
                   have p45 : 0 ≤ (x8_1 : Int) := of_decide_eq_true (by first | (with_reducible assumption) | assumption)
                   have q45 : (x8_1 : Int) < ((x7_2.length : Int) : Int) := of_decide_eq_true (by first | (with_reducible assumption) | assumption)
                   obtain ⟨hx45_0, hf45_0⟩ := Kd.R_celln false HO_7.out (x8_1 : Int) p45 q45
                   replace p45 := eq_true p45
                   replace q45 := eq_true q45
                   have HP47 := Kd.R_putn HO_7.out (x8_1 : Int) false
                   rw [← Ny120.out] at HP47
                   have HQ47 := am HP47
                   clear HP47
                   refine start_ (n := 23) (S := fun w' => w'.cell? ⟨go14, (x8_1).toNat, none⟩ = some (.bool false) ∧ w'.cell? (ad113.add (x9_2).toNat) = some (.bool false)) (ds := [22]) (bl 23 0) (by kernel_rfl) rfl rfl ⟨hx111_0, ((HB.out.cell (blt_ hw113_0)).trans hw113_0)⟩ (fun hHeld => ?_); refine with_tabW lambrequinref20_behind.tab10 lambrequinref20_behind.bits10 (fun HT_ HW_ => ?_)
                   generalize wc.drew = w46 at HO_7 BK101 HB HQ47 hf45_0 hx111_0 hx113_0 hx45_0 hHeld ⊢
                   refine pure_ (i := 0) (N := some 48) (v := ?_) (a' := ?_) (bl 23 1) rfl rfl (any_of HT_.out (by kernel_rfl)) (fun _ _ _ h => h) (Or.inl ⟨by rfl, ?_⟩) ?_ ?_
                   rotate_left
                   ·intro w'
                    go_simp
                    with_reducible rfl
                   rotate_left
                   ·simp only [Act.put, sA, sZ, sS, i64_w, i32_w]
                    rfl
                   refine pure_ (i := 1) (N := some 49) (v := ?_) (a' := ?_) (bl 23 3) rfl rfl (any_of HT_.out (by kernel_rfl)) (fun _ _ _ h => h) (Or.inl ⟨by rfl, ?_⟩) ?_ ?_
                   rotate_left
                   ·intro w'
                    go_simp
                    with_reducible rfl
                   rotate_left
                   ·simp only [Act.put, sA, sZ, sS, i64_w, i32_w]
                    rfl
                   refine pure_ (i := 2) (N := some 50) (v := ?_) (a' := ?_) (bl 23 7) rfl rfl (any_of HT_.out (by kernel_rfl)) (fun _ _ _ h => h) (Or.inl ⟨by rfl, ?_⟩) ?_ ?_
                   rotate_left
                   ·intro w'
                    go_simp
                    with_reducible rfl
                   rotate_left
                   ·simp only [Act.put, sA, sZ, sS, i64_w, i32_w]
                    rfl
                   refine pure_ (i := 3) (N := some 51) (v := ?_) (a' := ?_) (bl 23 15) rfl rfl (any_of HT_.out (by kernel_rfl)) (fun _ _ _ h => h) (Or.inl ⟨by rfl, ?_⟩) ?_ ?_
                   rotate_left
                   ·intro w'
                    go_simp
                    with_reducible rfl
                   rotate_left
                   ·simp only [Act.put, sA, sZ, sS, i64_w, i32_w]
                    rfl
                   refine pure_ (i := 4) (N := some 52) (v := ?_) (a' := ?_) (bl 23 31) rfl rfl (any_of HT_.out (by kernel_rfl)) (fun _ _ _ h => h) (Or.inl ⟨by rfl, ?_⟩) ?_ ?_
                   rotate_left
                   ·intro w'
                    go_simp
                    with_reducible rfl
                   rotate_left
                   ·simp only [Act.put, sA, sZ, sS, i64_w, i32_w]
                    rfl
                   refine take_ (i := 5) (N := some 53) (v := ?_) (a' := ?_) (bl 23 63) rfl rfl (take_ofW HT_.out HW_.out (by kernel_rfl)) (fun _ _ _ h => h) (Or.inl ⟨by rfl, ?_⟩) hHeld ?_ ?_
                   rotate_left
                   ·rintro w' ⟨s0, s1⟩
                    go_simp
                    with_reducible rfl
                   rotate_left
                   ·simp only [Act.put, sA, sZ, sS, i64_w, i32_w]
                    rfl
                   refine pure_ (i := 6) (N := some 54) (v := ?_) (a' := ?_) (bl 23 127) rfl rfl (any_of HT_.out (by kernel_rfl)) (fun _ _ _ h => h) (Or.inl ⟨by rfl, ?_⟩) ?_ ?_
                   rotate_left
                   ·intro w'
                    go_simp
                    with_reducible rfl
                   rotate_left
                   ·simp only [Act.put, sA, sZ, sS, i64_w, i32_w]
                    rfl
                   refine pure_ (i := 7) (N := some 55) (v := ?_) (a' := ?_) (bl 23 255) rfl rfl (any_of HT_.out (by kernel_rfl)) (fun _ _ _ h => h) (Or.inl ⟨by rfl, ?_⟩) ?_ ?_
                   rotate_left
                   ·intro w'
                    go_simp
                    with_reducible rfl
                   rotate_left
                   ·simp only [Act.put, sA, sZ, sS, i64_w, i32_w]
                    rfl
                   refine pure_ (i := 8) (N := some 56) (v := ?_) (a' := ?_) (bl 23 511) rfl rfl (any_of HT_.out (by kernel_rfl)) (fun _ _ _ h => h) (Or.inl ⟨by rfl, ?_⟩) ?_ ?_
                   rotate_left
                   ·intro w'
                    go_simp
                    with_reducible rfl
                   rotate_left
                   ·simp only [Act.put, sA, sZ, sS, i64_w, i32_w]
                    rfl
                   refine pure_ (i := 9) (N := some 57) (v := ?_) (a' := ?_) (bl 23 1023) rfl rfl (any_of HT_.out (by kernel_rfl)) (fun _ _ _ h => h) (Or.inl ⟨by rfl, ?_⟩) ?_ ?_
                   rotate_left
                   ·intro w'
                    go_simp
                    with_reducible rfl
                   rotate_left
                   ·simp only [Act.put, sA, sZ, sS, i64_w, i32_w]
                    rfl
                   refine take_ (i := 10) (N := some 58) (v := ?_) (a' := ?_) (bl 23 2047) rfl rfl (take_ofW HT_.out HW_.out (by kernel_rfl)) (fun _ _ _ h => h) (Or.inl ⟨by rfl, ?_⟩) hHeld ?_ ?_
                   rotate_left
                   ·rintro w' ⟨s0, s1⟩
                    go_simp
                    with_reducible rfl
                   rotate_left
                   ·simp only [Act.put, sA, sZ, sS, i64_w, i32_w]
                    rfl
                   refine pure_ (i := 11) (N := some 59) (v := ?_) (a' := ?_) (bl 23 4095) rfl rfl (any_of HT_.out (by kernel_rfl)) (fun _ _ _ h => h) (Or.inl ⟨by rfl, ?_⟩) ?_ ?_
                   rotate_left
                   ·intro w'
                    go_simp
                    with_reducible rfl
                   rotate_left
                   ·simp only [Act.put, sA, sZ, sS, i64_w, i32_w]
                    rfl
                   refine pure_ (i := 12) (N := some 60) (v := undef) (a' := ?_) (bl 23 8191) rfl rfl (any_of HT_.out (by kernel_rfl)) (fun _ _ _ h => h) (Or.inr ⟨by rfl, rfl⟩) ?_ ?_
                   rotate_left
                   ·simp only [Act.put, sA, sZ, sS, i64_w, i32_w]
                    rfl
                   refine pure_ (i := 13) (N := some 61) (v := undef) (a' := ?_) (bl 23 16383) rfl rfl (any_of HT_.out (by kernel_rfl)) (fun _ _ _ h => h) (Or.inr ⟨by rfl, rfl⟩) ?_ ?_
                   rotate_left
                   ·simp only [Act.put, sA, sZ, sS, i64_w, i32_w]
                    rfl
                   refine pure_ (i := 14) (N := some 62) (v := undef) (a' := ?_) (bl 23 32767) rfl rfl (any_of HT_.out (by kernel_rfl)) (fun _ _ _ h => h) (Or.inr ⟨by rfl, rfl⟩) ?_ ?_
                   rotate_left
                   ·simp only [Act.put, sA, sZ, sS, i64_w, i32_w]
                    rfl
                   refine pure_ (i := 15) (N := some 63) (v := undef) (a' := ?_) (bl 23 65535) rfl rfl (any_of HT_.out (by kernel_rfl)) (fun _ _ _ h => h) (Or.inr ⟨by rfl, rfl⟩) ?_ ?_
                   rotate_left
                   ·simp only [Act.put, sA, sZ, sS, i64_w, i32_w]
                    rfl
                   refine pure_ (i := 16) (N := some 64) (v := undef) (a' := ?_) (bl 23 131071) rfl rfl (any_of HT_.out (by kernel_rfl)) (fun _ _ _ h => h) (Or.inr ⟨by rfl, rfl⟩) ?_ ?_
                   rotate_left
                   ·simp only [Act.put, sA, sZ, sS, i64_w, i32_w]
                    rfl
                   refine pure_ (i := 17) (N := some 65) (v := undef) (a' := ?_) (bl 23 262143) rfl rfl (any_of HT_.out (by kernel_rfl)) (fun _ _ _ h => h) (Or.inr ⟨by rfl, rfl⟩) ?_ ?_
                   rotate_left
                   ·simp only [Act.put, sA, sZ, sS, i64_w, i32_w]
                    rfl
                   refine pure_ (i := 18) (N := some 66) (v := undef) (a' := ?_) (bl 23 524287) rfl rfl (any_of HT_.out (by kernel_rfl)) (fun _ _ _ h => h) (Or.inr ⟨by rfl, rfl⟩) ?_ ?_
                   rotate_left
                   ·simp only [Act.put, sA, sZ, sS, i64_w, i32_w]
                    rfl
                   refine pure_ (i := 19) (N := some 67) (v := ?_) (a' := ?_) (bl 23 1048575) rfl rfl (any_of HT_.out (by kernel_rfl)) (fun _ _ _ h => h) (Or.inl ⟨by rfl, ?_⟩) ?_ ?_
                   rotate_left
                   ·intro w'
                    go_simp
                    with_reducible rfl
                   rotate_left
                   ·simp only [Act.put, sA, sZ, sS, i64_w, i32_w]
                    rfl
                   refine pure_ (i := 20) (N := some 68) (v := ?_) (a' := ?_) (bl 23 2097151) rfl rfl (any_of HT_.out (by kernel_rfl)) (fun _ _ _ h => h) (Or.inl ⟨by rfl, ?_⟩) ?_ ?_
                   rotate_left
                   ·intro w'
                    go_simp
                    with_reducible rfl
                   rotate_left
                   ·simp only [Act.put, sA, sZ, sS, i64_w, i32_w]
                    rfl
                   refine pure_ (i := 21) (N := some 69) (v := ?_) (a' := ?_) (bl 23 4194303) rfl rfl (any_of HT_.out (by kernel_rfl)) (fun _ _ _ h => h) (Or.inl ⟨by rfl, ?_⟩) ?_ ?_
                   rotate_left
                   ·intro w'
                    go_simp
                    with_reducible rfl
                   rotate_left
                   ·simp only [Act.put, sA, sZ, sS, i64_w, i32_w]
                    rfl
                   refine last_ (i := 22) (N := none) (bl 23 8388607) rfl rfl (one_of HT_.out (by kernel_rfl)) (by decide) (fun K hK => ?_)
                   refine skip_ (w1 := ?_) (by rfl) rfl ?_ ?_
                   rotate_left
                   ·go_simp
                    rfl
                   refine hK.out _ _ ?_
                   clear hK K
                   refine done_ (done_of HT_.out (by kernel_rfl)) ?_
                   try go_wp2
                   (try simp only [← hl7_2])
                   go_roundg kj19
                   case measure => have := HK1.out; have := HK2.out; have := HJ19.out; omega
                   case rel => exact ⟨(y120), (wrap64 (x9_2 + 1)), (by first | rfl | (simp; done) | (simp [*]; done)), H', ⟨by have := HK1.out; have := HK2.out; have := HJ19.out; omega⟩, ⟨by (try simp only [hl7_2]); (with_reducible repeat (first | apply Ra | apply Rn | apply Rd)); exact HQ47.out⟩, ⟨by (try simp only [hl7_2]); (with_reducible repeat (first | refine bN ?_ _ | refine bD ?_ | refine bA ?_ _)); refine blk_far ?_ (by have h_ := Kd.R_ne HO_7.out BK101.out (by decide); intro e_; exact h_ (by rw [e_]; rfl)) _; (with_reducible repeat (first | refine bN ?_ _ | refine bD ?_ | refine bA ?_ _)); exact BK101.out⟩, ⟨by repeat (first | (with_reducible first | exact HB.out | apply lA | apply lN | apply lD | refine lS ?_ GB14.out | refine lS ?_ GE101.out) | exact HB.out)⟩⟩
                 ·rw [if_neg c34] at H
                  exact absurd H (by simp)
                ·rw [if_neg c33] at H
                 exact absurd H (by simp)
              ·rw [if_neg c27] at H
               exact absurd H (by simp)
             ·rw [if_neg c26] at H
              exact absurd H (by simp)
            ·replace c25 := Bool.eq_false_iff.mpr c25
             subst c25
             have H1 : (lambrequinref20_behind.l0 kj19 l1 l2 x7_2 (wrap64 (x8_1 + 1)) a0_0 a0_1 a0_2 a0_3 a0_4 a0_5 a0_6 a0_7) = some r := by rw [if_neg (show ¬ (false = true) by decide)] at H; exact H
             clear H
             have H := H1
             clear H1
             have H' := am H
             clear H
             go_wp2
             (try simp only [← hl7_2])
             go_roundg kj19
             case measure => have := HK1.out; have := HK2.out; have := HJ19.out; omega
             case rel => exact ⟨(x7_2), (wrap64 (x8_1 + 1)), (by first | rfl | (simp; done) | (simp [*]; done)), H', ⟨by have := HK1.out; have := HK2.out; have := HJ19.out; omega⟩, ⟨by (try simp only [hl7_2]); (with_reducible repeat (first | apply Ra | apply Rn | apply Rd)); exact HO_7.out⟩, ⟨by (try simp only [hl7_2]); (with_reducible repeat (first | refine bN ?_ _ | refine bD ?_ | refine bA ?_ _)); exact BK101.out⟩, ⟨by repeat (first | (with_reducible first | exact HB.out | apply lA | apply lN | apply lD | refine lS ?_ GE101.out) | exact HB.out)⟩⟩
       ·rw [if_neg c13] at H
        exact absurd H (by simp)
      ·replace c12 := Bool.eq_false_iff.mpr c12
       subst c12
       have H1 : (lambrequinref20_behind.l0 k1 l1 l2 x7_1 (wrap64 (x8_1 + 1)) a0_0 a0_1 a0_2 a0_3 a0_4 a0_5 a0_6 a0_7) = some r := by rw [if_neg (show ¬ (false = true) by decide)] at H; exact H
       clear H
       have H := H1
       clear H1
       have H' := am H
       clear H
       try go_wp2
       replace HO_7 := am (Kd.R_drew HO_7.out)
       replace BK101 := am (blk_drew BK101.out)
       replace HB := am (below_drew1 HB.out)
       have p108 : 0 ≤ (x8_1 : Int) := of_decide_eq_true (by first | (with_reducible assumption) | assumption)
       have q108 : x8_1 < (l1.length : Int) := of_decide_eq_true (by first | (with_reducible assumption) | assumption)
       obtain ⟨ad108, e108, hx108_0⟩ := Kd.at_string HR1.out x8_1 p108 q108
       have hw108_0 := hx108_0
       cases e108
       replace hx108_0 := (HB.out.cell (blt_ hx108_0)).trans hx108_0
       replace p108 := eq_true p108
       replace q108 := eq_true q108
       refine start_ (n := 7) (S := fun w' => w'.cell? ⟨gb101, 0, none⟩ = some (.int .i64 a0_0) ∧ w'.cell? ⟨gb101, 1, none⟩ = some (.string a0_1) ∧ w'.cell? ⟨gb101, 2, none⟩ = some (.string a0_2) ∧ w'.cell? ⟨gb101, 3, none⟩ = some (.string a0_3) ∧ w'.cell? ⟨gb101, 4, none⟩ = some (.string a0_4) ∧ w'.cell? ⟨gb101, 5, none⟩ = some (.int .i64 a0_5) ∧ w'.cell? ⟨gb101, 6, none⟩ = some (.int .i64 a0_6) ∧ w'.cell? ⟨gb101, 7, none⟩ = some (.int .i64 a0_7) ∧ w'.cell? (ad108.add (x8_1).toNat) = some (.string (rdOf ByteArray.empty l1 x8_1))) (ds := []) #[false, false, false, false, false, false, false] (by kernel_rfl) rfl rfl ⟨(blk_cell BK101.out 0).trans rfl, (blk_cell BK101.out 1).trans rfl, (blk_cell BK101.out 2).trans rfl, (blk_cell BK101.out 3).trans rfl, (blk_cell BK101.out 4).trans rfl, (blk_cell BK101.out 5).trans rfl, (blk_cell BK101.out 6).trans rfl, (blk_cell BK101.out 7).trans rfl, ((HB.out.cell (blt_ hw108_0)).trans hw108_0)⟩ (fun hHeld => ?_)
       generalize wr.drew = w48 at HO_7 BK101 HB hx108_0 hHeld ⊢
       refine pure_ (i := 1) (N := some 20) (v := ?_) (a' := ?_) #[false, true, false, false, false, false, false] rfl rfl (by kernel_rfl) (fun _ _ _ h => h) (Or.inl ⟨by rfl, ?_⟩) ?_ ?_
       rotate_left
       ·intro w'
        go_simp
        with_reducible rfl
       rotate_left
       ·simp only [Act.put, sA, sZ, sS, i64_w, i32_w]
        rfl
       refine pure_ (i := 2) (N := some 21) (v := ?_) (a' := ?_) #[false, true, true, false, false, false, false] rfl rfl (by kernel_rfl) (fun _ _ _ h => h) (Or.inl ⟨by rfl, ?_⟩) ?_ ?_
       rotate_left
       ·intro w'
        go_simp
        with_reducible rfl
       rotate_left
       ·simp only [Act.put, sA, sZ, sS, i64_w, i32_w]
        rfl
       refine pure_ (i := 3) (N := some 22) (v := ?_) (a' := ?_) #[false, true, true, true, false, false, false] rfl rfl (by kernel_rfl) (fun _ _ _ h => h) (Or.inl ⟨by rfl, ?_⟩) ?_ ?_
       rotate_left
       ·intro w'
        go_simp
        with_reducible rfl
       rotate_left
       ·simp only [Act.put, sA, sZ, sS, i64_w, i32_w]
        rfl
       refine take_ (i := 0) (N := some 19) (v := ?_) (a' := ?_) #[true, true, true, true, false, false, false] rfl rfl (by kernel_rfl) (fun _ _ _ h => h) (Or.inl ⟨by rfl, ?_⟩) hHeld ?_ ?_
       rotate_left
       ·rintro w' ⟨s0, s1, s2, s3, s4, s5, s6, s7, s8⟩
        go_simp
        with_reducible rfl
       rotate_left
       ·simp only [Act.put, sA, sZ, sS, i64_w, i32_w]
        rfl
       refine take_ (i := 4) (N := some 23) (v := ?_) (a' := ?_) #[true, true, true, true, true, false, false] rfl rfl (by kernel_rfl) (fun _ _ _ h => h) (Or.inl ⟨by rfl, ?_⟩) hHeld ?_ ?_
       rotate_left
       ·rintro w' ⟨s0, s1, s2, s3, s4, s5, s6, s7, s8⟩
        go_simp
        with_reducible rfl
       rotate_left
       ·simp only [Act.put, sA, sZ, sS, i64_w, i32_w]
        rfl
       refine one_ (i := 5) (N := some 24) #[true, true, true, true, true, true, false] rfl rfl (by kernel_rfl) (by decide) (fun K hK => ?_)
       refine goes_ Try.func58 (by kernel_rfl) rfl #[.agg #[.int .i64 a0_0, .string a0_1, .string a0_2, .string a0_3, .string a0_4, .int .i64 a0_5, .int .i64 a0_6, .int .i64 a0_7], .string (rdOf ByteArray.empty l1 x8_1)] (by rfl) rfl rfl (by (try simp only [List.map_toArray, List.map_cons, List.map_nil]); first | done | rfl | (simp only [List.length_drop, List.length_take]; rfl)) ?_
       with_reducible refine (lambrequinref20_Defines.calls a0_0 a0_1 a0_2 a0_3 a0_4 a0_5 a0_6 a0_7 (rdOf ByteArray.empty l1 x8_1) false _ A11.out).mono ?_
       rintro e w49 ⟨rfl, hb⟩
       refine ⟨_, rfl, ?_⟩
       replace HO_7 := am (Kd.R_below (by (with_reducible repeat (first | apply Ra | apply Rn | apply Rd)); exact HO_7.out) hb)
       replace BK101 := am (blk_below (g := gb101) (o := .cells #[.int .i64 a0_0, .string a0_1, .string a0_2, .string a0_3, .string a0_4, .int .i64 a0_5, .int .i64 a0_6, .int .i64 a0_7] 30 (0, 0)) (by (with_reducible repeat (first | refine bN ?_ _ | refine bD ?_ | refine bA ?_ _)); exact BK101.out) hb)
       replace HB := am (below_step (by repeat (first | (with_reducible first | exact HB.out | apply lA | apply lN | apply lD | refine lS ?_ GE101.out) | exact HB.out)) hb)
       (try clear hb)
       (try clear hb2)
       (try clear hk)
       (try clear hi)
       refine hK.out _ _ ⟨(blk_cell BK101.out 0).trans rfl, (blk_cell BK101.out 1).trans rfl, (blk_cell BK101.out 2).trans rfl, (blk_cell BK101.out 3).trans rfl, (blk_cell BK101.out 4).trans rfl, (blk_cell BK101.out 5).trans rfl, (blk_cell BK101.out 6).trans rfl, (blk_cell BK101.out 7).trans rfl, ((HB.out.cell (blt_ hw108_0)).trans hw108_0)⟩ (fun hHeld => ?_)
       clear hK K
       refine norm_ (a' := ?_) ?_ ?_
       rotate_left
       ·show Act.put _ (some 24) _ = _
        simp only [Act.put, sA, sZ, sS, i64_w, i32_w]
        rfl
       refine pure_ (i := 6) (N := some 25) (v := ?_) (a' := ?_) #[true, true, true, true, true, true, true] rfl rfl (by kernel_rfl) (fun _ _ _ h => h) (Or.inl ⟨by rfl, ?_⟩) ?_ ?_
       rotate_left
       ·intro w'
        go_simp
        with_reducible rfl
       rotate_left
       ·simp only [Act.put, sA, sZ, sS, i64_w, i32_w]
        rfl
       refine done_ (by kernel_rfl) ?_
       try go_wp2
       go_roundg k1
       case measure => have := HK1.out; omega
       case rel => exact ⟨(x7_1), (wrap64 (x8_1 + 1)), (by first | rfl | (simp; done) | (simp [*]; done)), H', ⟨by have := HK1.out; omega⟩, ⟨by (with_reducible repeat (first | apply Ra | apply Rn | apply Rd)); exact HO_7.out⟩, ⟨by (with_reducible repeat (first | refine bN ?_ _ | refine bD ?_ | refine bA ?_ _)); exact BK101.out⟩, ⟨by repeat (first | (with_reducible first | exact HB.out | apply lA | apply lN | apply lD | refine lS ?_ GE101.out) | exact HB.out)⟩⟩
     ·rw [if_neg c10] at H
      exact absurd H (by simp)
    ·rw [if_neg c9] at H
     have c9b0 : decide (x8_1 < (l1.length : Int)) = false := decide_eq_false c9
     clear c9
     obtain rfl := Option.some.inj H
     go_wp2
     go_ret
     exact ⟨_, by first | rfl | (simp [errW_none, errW_some] <;> rfl) | (simp [*, errW_none, errW_some] <;> rfl), by (with_reducible repeat (first | apply Ra | apply Rn | apply Rd)); exact HO_7.out, by repeat (first | (with_reducible first | exact HB.out | apply lA | apply lN | apply lD | refine lS ?_ GE101.out) | exact HB.out)⟩
 ·rw [if_neg c4] at H
  exact absurd H (by simp)
mutual
def lambrequinref20_Ahead.l0 : Nat → List (Stmt) → List ByteArray → List (List Bool) → Int → Option ((List (List Bool)))
 | 0, _, _, _, _ => none
 | k + 1, x0, x1, x5, x6 => if x6 < (x0.length : Int) then (if 0 ≤ (x1.length : Int) then (if ((x1.length : Int) : Int).toNat ≤ 281474976710656 then (if x5.length < 5864062014805 then (lambrequinref20_Ahead.l0 k x0 x1 (x5 ++ [(List.replicate ((x1.length : Int) : Int).toNat false)]) (wrap64 (x6 + 1))) else (none)) else (none)) else (none)) else (lambrequinref20_Ahead.l1 k x0 x1 x5 0)
def lambrequinref20_Ahead.l1 : Nat → List (Stmt) → List ByteArray → List (List Bool) → Int → Option ((List (List Bool)))
 | 0, _, _, _, _ => none
 | k + 1, x0, x1, x5, x7 => if x7 ≤ (wrap64 ((x0.length : Int) * (x1.length : Int))) then (lambrequinref20_Ahead.l2 k x0 x1 x5 x7 0) else (some x5)
def lambrequinref20_Ahead.l2 : Nat → List (Stmt) → List ByteArray → List (List Bool) → Int → Int → Option ((List (List Bool)))
 | 0, _, _, _, _, _ => none
 | k + 1, x0, x1, x5, x7, x8 => if x8 < (x0.length : Int) then (if 0 ≤ x8 then (if x8 < (x5.length : Int) then ((lambrequinref20_behind.f k ((rd_T30 x0 x8).kind) ((rd_T30 x0 x8).x) ((rd_T30 x0 x8).y) ((rd_T30 x0 x8).z) ((rd_T30 x0 x8).op) ((rd_T30 x0 x8).n) ((rd_T30 x0 x8).a) ((rd_T30 x0 x8).b) x1 (rd_L6 x5 x8)).bind fun t109 => (lambrequinref20_Ahead.l3 k x0 x1 x5 x7 x8 t109 0)) else (none)) else (none)) else (lambrequinref20_Ahead.l1 k x0 x1 x5 (wrap64 (x7 + 1)))
def lambrequinref20_Ahead.l3 : Nat → List (Stmt) → List ByteArray → List (List Bool) → Int → Int → List Bool → Int → Option ((List (List Bool)))
 | 0, _, _, _, _, _, _, _ => none
 | k + 1, x0, x1, x5, x7, x8, x9, x10 => if x10 < (x0.length : Int) then (lambrequinref20_Ahead.l4 k x0 x1 x5 x7 x8 x9 x10 0) else (lambrequinref20_Ahead.l2 k x0 x1 x5 x7 (wrap64 (x8 + 1)))
def lambrequinref20_Ahead.l4 : Nat → List (Stmt) → List ByteArray → List (List Bool) → Int → Int → List Bool → Int → Int → Option ((List (List Bool)))
 | 0, _, _, _, _, _, _, _, _ => none
 | k + 1, x0, x1, x5, x7, x8, x9, x10, x11 => if x11 < (x1.length : Int) then ((lambrequinref20_Leads.f k x0 x8 x10).bind fun t112 => (if t112 = true then (if 0 ≤ x10 then (if x10 < (x5.length : Int) then (if 0 ≤ x11 then (if x11 < ((rd_L6 x5 x10).length : Int) then (if rdOf false (rd_L6 x5 x10) x11 = true then (lambrequinref20_Ahead.l4 k x0 x1 (x5.set (x10 : Int).toNat ((rd_L6 x5 x10).set (x11 : Int).toNat true)) x7 x8 x9 x10 (wrap64 (x11 + 1))) else (if x11 < (x9.length : Int) then (lambrequinref20_Ahead.l4 k x0 x1 (x5.set (x10 : Int).toNat ((rd_L6 x5 x10).set (x11 : Int).toNat (rdOf false x9 x11))) x7 x8 x9 x10 (wrap64 (x11 + 1))) else (none))) else (none)) else (none)) else (none)) else (none)) else (lambrequinref20_Ahead.l3 k x0 x1 x5 x7 x8 x9 (wrap64 (x10 + 1))))) else (lambrequinref20_Ahead.l3 k x0 x1 x5 x7 x8 x9 (wrap64 (x10 + 1)))
end
def lambrequinref20_Ahead.f (k : Nat) (l0 : List (Stmt)) (l1 : List ByteArray) : Option ((List (List Bool))) := lambrequinref20_Ahead.l0 k l0 l1 ([] : List (List Bool)) 0
theorem lambrequinref20_Ahead.mono_l : ∀ k, (∀ y0 y1 y2 y3, LeO (lambrequinref20_Ahead.l0 k y0 y1 y2 y3) (lambrequinref20_Ahead.l0 (k + 1) y0 y1 y2 y3)) ∧ (∀ y0 y1 y2 y3, LeO (lambrequinref20_Ahead.l1 k y0 y1 y2 y3) (lambrequinref20_Ahead.l1 (k + 1) y0 y1 y2 y3)) ∧ (∀ y0 y1 y2 y3 y4, LeO (lambrequinref20_Ahead.l2 k y0 y1 y2 y3 y4) (lambrequinref20_Ahead.l2 (k + 1) y0 y1 y2 y3 y4)) ∧ (∀ y0 y1 y2 y3 y4 y5 y6, LeO (lambrequinref20_Ahead.l3 k y0 y1 y2 y3 y4 y5 y6) (lambrequinref20_Ahead.l3 (k + 1) y0 y1 y2 y3 y4 y5 y6)) ∧ (∀ y0 y1 y2 y3 y4 y5 y6 y7, LeO (lambrequinref20_Ahead.l4 k y0 y1 y2 y3 y4 y5 y6 y7) (lambrequinref20_Ahead.l4 (k + 1) y0 y1 y2 y3 y4 y5 y6 y7))
 | 0 => ⟨fun _ _ _ _ r h => by simp [lambrequinref20_Ahead.l0] at h, fun _ _ _ _ r h => by simp [lambrequinref20_Ahead.l1] at h, fun _ _ _ _ _ r h => by simp [lambrequinref20_Ahead.l2] at h, fun _ _ _ _ _ _ _ r h => by simp [lambrequinref20_Ahead.l3] at h, fun _ _ _ _ _ _ _ _ r h => by simp [lambrequinref20_Ahead.l4] at h⟩
 | k + 1 => by
  obtain ⟨ih0, ih1, ih2, ih3, ih4⟩ := lambrequinref20_Ahead.mono_l k
  refine ⟨?_, ?_, ?_, ?_, ?_⟩
  ·intro y0 y1 y2 y3
   unfold lambrequinref20_Ahead.l0
   repeat' first
   | (with_reducible exact ih0 _ _ _ _)
   | (with_reducible exact ih1 _ _ _ _)
   | (with_reducible exact ih2 _ _ _ _ _)
   | (with_reducible exact ih3 _ _ _ _ _ _ _)
   | (with_reducible exact ih4 _ _ _ _ _ _ _ _)
   | (with_reducible exact lambrequinref20_Leads.mono _ _ _ _)
   | (with_reducible exact lambrequinref20_behind.mono _ _ _ _ _ _ _ _ _ _ _)
   | (with_reducible exact LeO.refl _)
   | (with_reducible exact LeO.none _)
   | (with_reducible refine LeO.ite ?_ ?_)
   | (with_reducible refine LeO.bind ?_ (fun _ => ?_))
   | exact ih0 _ _ _ _
   | exact ih1 _ _ _ _
   | exact ih2 _ _ _ _ _
   | exact ih3 _ _ _ _ _ _ _
   | exact ih4 _ _ _ _ _ _ _ _
   | exact lambrequinref20_Leads.mono _ _ _ _
   | exact lambrequinref20_behind.mono _ _ _ _ _ _ _ _ _ _ _
   | exact LeO.none _
   | refine LeO.ite ?_ ?_
   | refine LeO.bind ?_ (fun _ => ?_)
  ·intro y0 y1 y2 y3
   unfold lambrequinref20_Ahead.l1
   repeat' first
   | (with_reducible exact ih0 _ _ _ _)
   | (with_reducible exact ih1 _ _ _ _)
   | (with_reducible exact ih2 _ _ _ _ _)
   | (with_reducible exact ih3 _ _ _ _ _ _ _)
   | (with_reducible exact ih4 _ _ _ _ _ _ _ _)
   | (with_reducible exact lambrequinref20_Leads.mono _ _ _ _)
   | (with_reducible exact lambrequinref20_behind.mono _ _ _ _ _ _ _ _ _ _ _)
   | (with_reducible exact LeO.refl _)
   | (with_reducible exact LeO.none _)
   | (with_reducible refine LeO.ite ?_ ?_)
   | (with_reducible refine LeO.bind ?_ (fun _ => ?_))
   | exact ih0 _ _ _ _
   | exact ih1 _ _ _ _
   | exact ih2 _ _ _ _ _
   | exact ih3 _ _ _ _ _ _ _
   | exact ih4 _ _ _ _ _ _ _ _
   | exact lambrequinref20_Leads.mono _ _ _ _
   | exact lambrequinref20_behind.mono _ _ _ _ _ _ _ _ _ _ _
   | exact LeO.none _
   | refine LeO.ite ?_ ?_
   | refine LeO.bind ?_ (fun _ => ?_)
  ·intro y0 y1 y2 y3 y4
   unfold lambrequinref20_Ahead.l2
   repeat' first
   | (with_reducible exact ih0 _ _ _ _)
   | (with_reducible exact ih1 _ _ _ _)
   | (with_reducible exact ih2 _ _ _ _ _)
   | (with_reducible exact ih3 _ _ _ _ _ _ _)
   | (with_reducible exact ih4 _ _ _ _ _ _ _ _)
   | (with_reducible exact lambrequinref20_Leads.mono _ _ _ _)
   | (with_reducible exact lambrequinref20_behind.mono _ _ _ _ _ _ _ _ _ _ _)
   | (with_reducible exact LeO.refl _)
   | (with_reducible exact LeO.none _)
   | (with_reducible refine LeO.ite ?_ ?_)
   | (with_reducible refine LeO.bind ?_ (fun _ => ?_))
   | exact ih0 _ _ _ _
   | exact ih1 _ _ _ _
   | exact ih2 _ _ _ _ _
   | exact ih3 _ _ _ _ _ _ _
   | exact ih4 _ _ _ _ _ _ _ _
   | exact lambrequinref20_Leads.mono _ _ _ _
   | exact lambrequinref20_behind.mono _ _ _ _ _ _ _ _ _ _ _
   | exact LeO.none _
   | refine LeO.ite ?_ ?_
   | refine LeO.bind ?_ (fun _ => ?_)
  ·intro y0 y1 y2 y3 y4 y5 y6
   unfold lambrequinref20_Ahead.l3
   repeat' first
   | (with_reducible exact ih0 _ _ _ _)
   | (with_reducible exact ih1 _ _ _ _)
   | (with_reducible exact ih2 _ _ _ _ _)
   | (with_reducible exact ih3 _ _ _ _ _ _ _)
   | (with_reducible exact ih4 _ _ _ _ _ _ _ _)
   | (with_reducible exact lambrequinref20_Leads.mono _ _ _ _)
   | (with_reducible exact lambrequinref20_behind.mono _ _ _ _ _ _ _ _ _ _ _)
   | (with_reducible exact LeO.refl _)
   | (with_reducible exact LeO.none _)
   | (with_reducible refine LeO.ite ?_ ?_)
   | (with_reducible refine LeO.bind ?_ (fun _ => ?_))
   | exact ih0 _ _ _ _
   | exact ih1 _ _ _ _
   | exact ih2 _ _ _ _ _
   | exact ih3 _ _ _ _ _ _ _
   | exact ih4 _ _ _ _ _ _ _ _
   | exact lambrequinref20_Leads.mono _ _ _ _
   | exact lambrequinref20_behind.mono _ _ _ _ _ _ _ _ _ _ _
   | exact LeO.none _
   | refine LeO.ite ?_ ?_
   | refine LeO.bind ?_ (fun _ => ?_)
  ·intro y0 y1 y2 y3 y4 y5 y6 y7
   unfold lambrequinref20_Ahead.l4
   repeat' first
   | (with_reducible exact ih0 _ _ _ _)
   | (with_reducible exact ih1 _ _ _ _)
   | (with_reducible exact ih2 _ _ _ _ _)
   | (with_reducible exact ih3 _ _ _ _ _ _ _)
   | (with_reducible exact ih4 _ _ _ _ _ _ _ _)
   | (with_reducible exact lambrequinref20_Leads.mono _ _ _ _)
   | (with_reducible exact lambrequinref20_behind.mono _ _ _ _ _ _ _ _ _ _ _)
   | (with_reducible exact LeO.refl _)
   | (with_reducible exact LeO.none _)
   | (with_reducible refine LeO.ite ?_ ?_)
   | (with_reducible refine LeO.bind ?_ (fun _ => ?_))
   | exact ih0 _ _ _ _
   | exact ih1 _ _ _ _
   | exact ih2 _ _ _ _ _
   | exact ih3 _ _ _ _ _ _ _
   | exact ih4 _ _ _ _ _ _ _ _
   | exact lambrequinref20_Leads.mono _ _ _ _
   | exact lambrequinref20_behind.mono _ _ _ _ _ _ _ _ _ _ _
   | exact LeO.none _
   | refine LeO.ite ?_ ?_
   | refine LeO.bind ?_ (fun _ => ?_)
theorem lambrequinref20_Ahead.mono : ∀ a0 a1 k, LeO (lambrequinref20_Ahead.f k a0 a1) (lambrequinref20_Ahead.f (k + 1) a0 a1) := by
 intro a0 a1 k
 obtain ⟨ih0, ih1, ih2, ih3, ih4⟩ := lambrequinref20_Ahead.mono_l k
 unfold lambrequinref20_Ahead.f
 repeat' first
   | (with_reducible exact ih0 _ _ _ _)
   | (with_reducible exact ih1 _ _ _ _)
   | (with_reducible exact ih2 _ _ _ _ _)
   | (with_reducible exact ih3 _ _ _ _ _ _ _)
   | (with_reducible exact ih4 _ _ _ _ _ _ _ _)
   | (with_reducible exact lambrequinref20_Leads.mono _ _ _ _)
   | (with_reducible exact lambrequinref20_behind.mono _ _ _ _ _ _ _ _ _ _ _)
   | (with_reducible exact LeO.refl _)
   | (with_reducible exact LeO.none _)
   | (with_reducible refine LeO.ite ?_ ?_)
   | (with_reducible refine LeO.bind ?_ (fun _ => ?_))
   | exact ih0 _ _ _ _
   | exact ih1 _ _ _ _
   | exact ih2 _ _ _ _ _
   | exact ih3 _ _ _ _ _ _ _
   | exact ih4 _ _ _ _ _ _ _ _
   | exact lambrequinref20_Leads.mono _ _ _ _
   | exact lambrequinref20_behind.mono _ _ _ _ _ _ _ _ _ _ _
   | exact LeO.none _
   | refine LeO.ite ?_ ?_
   | refine LeO.bind ?_ (fun _ => ?_)
def lambrequinref20_Ahead.T12 : Bool × List (List Nat × List Nat) := (true, [([], []), ([], []), ([0, 1], [0, 1]), ([2], [2]), ([], []), ([], []), ([], []), ([5, 6], [5, 6]), ([7], [7]), ([3, 4, 8], [3, 4, 8]), ([9, 9, 0, 1, 2, 3, 4, 5, 6, 7, 8, 9], [9])])
def lambrequinref20_Ahead.B12 : List Nat := [0, 0, 3, 7, 0, 0, 0, 96, 224, 511, 1023]
theorem lambrequinref20_Ahead.tab12 : rtab .any (opsOf Try.f62 12) = lambrequinref20_Ahead.T12 := by kernel_rfl
theorem lambrequinref20_Ahead.bits12 : waitsOk lambrequinref20_Ahead.T12.2 lambrequinref20_Ahead.B12 = true := by kernel_rfl
def lambrequinref20_Ahead.T19 : Bool × List (List Nat × List Nat) := (true, [([], []), ([], []), ([0, 1], [0, 1]), ([2], [2]), ([], []), ([], []), ([], []), ([5, 6], [5, 6]), ([7], [7]), ([], []), ([8, 9], [8, 9]), ([10], [10]), ([11], [11]), ([12], [12]), ([12], [12]), ([13, 14, 12], [12, 13, 14]), ([15, 12], [12, 15]), ([12, 16], [12, 16]), ([3, 4, 0, 1, 2, 3, 4, 5, 6, 7, 8, 9, 10, 11, 12, 13, 14, 15, 16, 17], [3, 4]), ([18, 17, 12, 0, 1, 2, 3, 4, 5, 6, 7, 8, 9, 10, 11, 12, 13, 14, 15, 16, 17], [17, 18])])
def lambrequinref20_Ahead.B19 : List Nat := [0, 0, 3, 7, 0, 0, 0, 96, 224, 0, 992, 2016, 4064, 8160, 8160, 32736, 65504, 131040, 262143, 524287]
theorem lambrequinref20_Ahead.tab19 : rtab .any (opsOf Try.f62 19) = lambrequinref20_Ahead.T19 := by kernel_rfl
theorem lambrequinref20_Ahead.bits19 : waitsOk lambrequinref20_Ahead.T19.2 lambrequinref20_Ahead.B19 = true := by kernel_rfl
set_option maxHeartbeats 8000000 in
set_option maxRecDepth 100000 in
theorem lambrequinref20_Ahead.calls (k : Nat) (A0 : Option Addr) (c0 : Nat) (l0 : List (Stmt)) (A1 : Option Addr) (c1 : Nat) (l1 : List ByteArray) (r : List (List Bool)) (w : World) (hr0 : Kd.C k30 w A0 l0.length l0) (hc0 : l0.length ≤ c0) (hr1 : Kd.C Kd.string w A1 l1.length l1) (hc1 : l1.length ≤ c1) (h : lambrequinref20_Ahead.f k l0 l1 = some r) :
  Calls Try.prog 62 #[.slice A0 l0.length c0, .slice A1 l1.length c1] w fun e w' => ∃ v0_ : Value, e = .returned (v0_) ∧ Kd.S (Kd.slice 4 Kd.bool) 41 w' w.heap.size (fun _ => True) v0_ r ∧ Below w.heap.size w w' := by
 have hu30 := Try.underlying30
 have HR0 := am hr0
 have HC0 := am hc0
 clear hr0 hc0
 have HR1 := am hr1
 have HC1 := am hc1
 clear hr1 hc1
 have HB := am (Below.refl w.heap.size w)
 have H : (lambrequinref20_Ahead.l0 k l0 l1 ([] : List (List Bool)) 0) = some r := h
 clear h
 have H' := am H
 clear H
 go_enter Try.func62, Try.ntmps62
 go_wp2
 go_loopg [5, 6] k (fun kq v5 v6 w' => ∃ (x5_1 : List (List Bool)) (x6_1 : Int), v6 = .int .i64 x6_1 ∧ Aside0 (lambrequinref20_Ahead.l0 kq l0 l1 x5_1 x6_1 = some r) ∧ Aside0 (kq ≤ k) ∧ Aside0 (Kd.S (Kd.slice 4 Kd.bool) 41 w' w.heap.size (fun _ => True) v5 x5_1) ∧ Aside0 (Below w.heap.size w w'))
 case atStart => exact ⟨(([] : List (List Bool))), (0), (by first | rfl | (simp; done) | (simp [*]; done)), H', ⟨Nat.le_refl _⟩, ⟨by first | exact Kd.S_nil _ _ _ _ _ | exact Kd.N_nil _ _ _ _ _ | exact Kd.V_nil _ _ _ _ _ | exact Kd.Q_nil _ _ _ _ _ | exact Kd.R_nil _ _ _ _ _⟩, ⟨by repeat (first | (with_reducible first | exact HB.out | apply lA | apply lN | apply lD) | exact HB.out)⟩⟩
 case round =>
  clear H'
  try clear c1
  try clear p2
  obtain ⟨x5_1, x6_1, rfl, HA, HK1, HO_5, HB⟩ := hrel
  cases gk with
  | zero => exact absurd HA.out (by simp [lambrequinref20_Ahead.l0])
  | succ k1 =>
   have H := HA.out
   clear HA
   simp only [lambrequinref20_Ahead.l0] at H
   by_cases c3 : x6_1 < (l0.length : Int)
   ·rw [if_pos c3] at H
    have c3b0 : decide (x6_1 < (l0.length : Int)) = true := decide_eq_true c3
    clear c3
    by_cases c4 : 0 ≤ (l1.length : Int)
    ·rw [if_pos c4] at H
     have c4b0 := eq_true c4
     have c4b1 : decide (0 ≤ (l1.length : Int)) = true := decide_eq_true c4
     clear c4
     by_cases c5 : ((l1.length : Int) : Int).toNat ≤ 281474976710656
     ·rw [if_pos c5] at H
      have c5b0 := eq_true c5
      have c5b1 : decide (((l1.length : Int) : Int).toNat ≤ 281474976710656) = true := decide_eq_true c5
      clear c5
      obtain ⟨y101, hy101⟩ : ∃ y_ : List Bool, y_ = (List.replicate ((l1.length : Int) : Int).toNat false) := ⟨_, rfl⟩
      replace H : (if x5_1.length < 5864062014805 then (lambrequinref20_Ahead.l0 k1 l0 l1 (x5_1 ++ [y101]) (wrap64 (x6_1 + 1))) else (none)) = some r := by first | (rw [hy101]; with_reducible exact H) | (have H2_ := (Option.bind_some _ _).symm.trans H; rw [hy101]; with_reducible exact H2_) | (have H2_ := (Option.bind_some _ _).symm.trans H; with_reducible exact H2_) | with_reducible exact H | (rw [hy101]; exact H) | exact H
      have Ny101 := am hy101
      clear hy101
      by_cases c6 : x5_1.length < 5864062014805
      ·rw [if_pos c6] at H
       have LMc6 := am c6
       clear c6
       obtain ⟨y104, hy104⟩ : ∃ y_ : List (List Bool), y_ = (x5_1 ++ [y101]) := ⟨_, rfl⟩
       replace H : (lambrequinref20_Ahead.l0 k1 l0 l1 y104 (wrap64 (x6_1 + 1))) = some r := by first | (rw [hy104]; with_reducible exact H) | (have H2_ := (Option.bind_some _ _).symm.trans H; rw [hy104]; with_reducible exact H2_) | (have H2_ := (Option.bind_some _ _).symm.trans H; with_reducible exact H2_) | with_reducible exact H | (rw [hy104]; exact H) | exact H
       have Ny104 := am hy104
       clear hy104
       have H' := am H
       clear H
       go_wp2_with (first | ((with_reducible refine gate_dst (N := 21) rfl ?_); refine Kd.R_make Kd.bool _ 4 rfl (N := 21) rfl 41 _ _ rfl (l1.length : Int) rfl rfl Try.underlying41 (.bool false) 1 info4 rfl (by decide) (by omega) false (ok := fun _ => True) (okp := fun _ => True) rfl (fun _ hk => hk) trivial (of_decide_eq_true (by first | (with_reducible assumption) | assumption)) (Nat.le_trans (Nat.mul_le_mul_right _ (of_decide_eq_true (by first | (with_reducible assumption) | assumption) : (l1.length : Int).toNat ≤ 281474976710656)) (by omega)) (Below.refl _ _) (Nat.le_refl _) ?_; intro v102 w7 ho8 hb hg_ hnew_; clear hg_ hnew_; (first | rw [← Ny101.out] at ho8 | (simp only [Int.reduceToNat] at ho8; rw [← Ny101.out] at ho8)); replace HO_5 := am (Kd.S_elder' (by (with_reducible repeat (first | apply Kd.S_alloc | apply Kd.S_drewN | apply Kd.S_drew)); exact HO_5.out) (Kd.R_base ho8) hb); have HO103 := am (Kd.R_lower ho8 (below_size (by repeat (first | (with_reducible first | exact HB.out | apply lA | apply lN | apply lD) | exact HB.out)))); replace HB := am (below_step (by repeat (first | (with_reducible first | exact HB.out | apply lA | apply lN | apply lD) | exact HB.out)) hb); clear hb ho8; obtain ⟨Ao10, co10, eo10⟩ := Kd.R_slice HO103.out; subst eo10) | ((with_reducible refine gate_builtin (b := .append) (xs := #[.tmp 18, .tmp 22]) rfl ?_); at_builtin; refine Kd.S_append (Kd.slice 4 Kd.bool) (w0 := w) w.heap.size rfl (.tmp 18) (.tmp 22) 87 41 (.slice none 0 0) 24 rfl Try.underlying87 info41 rfl (by decide) (by omega) u5 x5_1 y101 [.slice Ao10 y101.length co10] (fun _ => True) (fun k_ => some k_ = (.slice Ao10 y101.length co10 : Value).ownBlock) rfl rfl ?aP (fun k_ hk_ => ((Kd.R_mono (ok' := fun k_ => ((fun _ => True)) k_ ∧ some k_ ≠ (u5 : Value).ownBlock) (Kd.R_apart' (HO103.out) (Kd.S_typed HO_5.out) (by decide)) (fun k_ hk => ⟨trivial, hk.2⟩))).1 k_ hk_.symm) ?aF ?aO ?aB ?aS ?aL ?_; (case aP => exact Kd.M_row (Kd.R_mono (Kd.R_tight rfl (Kd.R_mono (ok' := fun k_ => ((fun _ => True)) k_ ∧ some k_ ≠ (u5 : Value).ownBlock) (Kd.R_apart' (HO103.out) (Kd.S_typed HO_5.out) (by decide)) (fun k_ hk => ⟨trivial, hk.2⟩))) (fun _ h_ => h_))); (case aB => exact (by repeat (first | (with_reducible first | exact HB.out | apply lA | apply lN | apply lD) | exact HB.out))); (case aF => exact (fun _ _ => trivial)); (case aO => exact (by (with_reducible repeat (first | apply Kd.S_alloc | apply Kd.S_drewN | apply Kd.S_drew)); exact Kd.S_mono HO_5.out (fun k_ hk => ⟨trivial, fun e_ => hk.2 e_⟩))); (case aS => exact (below_size (by repeat (first | (with_reducible first | exact HB.out | apply lA | apply lN | apply lD) | exact HB.out)))); (case aL => have := LMc6.out; omega); intro v105 w9 ho hb hg hat; rw [← Ny104.out] at ho; replace HB := am (hb); have HO106 := am (ho); clear HO_5 HO103; clear ho hb hg hat))
       go_roundg k1
       case measure => have := HK1.out; omega
       case rel => exact ⟨(y104), (wrap64 (x6_1 + 1)), (by first | rfl | (simp; done) | (simp [*]; done)), H', ⟨by have := HK1.out; omega⟩, ⟨by (with_reducible repeat (first | apply Kd.S_alloc | apply Kd.S_drewN | apply Kd.S_drew)); exact HO106.out⟩, ⟨by repeat (first | (with_reducible first | exact HB.out | apply lA | apply lN | apply lD) | exact HB.out)⟩⟩
      ·rw [if_neg c6] at H
       exact absurd H (by simp)
     ·rw [if_neg c5] at H
      exact absurd H (by simp)
    ·rw [if_neg c4] at H
     exact absurd H (by simp)
   ·rw [if_neg c3] at H
    have c3b0 : decide (x6_1 < (l0.length : Int)) = false := decide_eq_false c3
    clear c3
    have H' := am H
    clear H
    go_wp2
    go_loopg [7] k1 (fun kq v7 w' => ∃ (x5_2 : List (List Bool)) (x7_2 : Int), v7 = .int .i64 x7_2 ∧ Aside0 (lambrequinref20_Ahead.l1 kq l0 l1 x5_2 x7_2 = some r) ∧ Aside0 (kq ≤ k1) ∧ Aside0 (Kd.S (Kd.slice 4 Kd.bool) 41 w' w.heap.size (fun _ => True) u5 x5_2) ∧ Aside0 (Below w.heap.size w w'))
    case atStart => exact ⟨(x5_1), (0), (by first | rfl | (simp; done) | (simp [*]; done)), H', ⟨Nat.le_refl _⟩, ⟨by (with_reducible repeat (first | apply Kd.S_alloc | apply Kd.S_drewN | apply Kd.S_drew)); exact HO_5.out⟩, ⟨by repeat (first | (with_reducible first | exact HB.out | apply lA | apply lN | apply lD) | exact HB.out)⟩⟩
    case round =>
     clear H'
     try clear c1
     try clear p2
     try clear c3
     try clear c3b0
     try clear c4
     try clear c4b0
     try clear c4b1
     try clear c5
     try clear c5b0
     try clear c5b1
     try clear c6
     try clear p6
     try clear p2
     obtain ⟨x5_2, x7_2, rfl, HA, HK2, HO_5, HB⟩ := hrel
     cases gk with
     | zero => exact absurd HA.out (by simp [lambrequinref20_Ahead.l1])
     | succ k2 =>
      have H := HA.out
      clear HA
      simp only [lambrequinref20_Ahead.l1] at H
      by_cases c11 : x7_2 ≤ (wrap64 ((l0.length : Int) * (l1.length : Int)))
      ·rw [if_pos c11] at H
       have c11b0 : decide (x7_2 ≤ (wrap64 ((l0.length : Int) * (l1.length : Int)))) = true := decide_eq_true c11
       clear c11
       have H' := am H
       clear H
       go_wp2
       go_loopg [8] k2 (fun kq v8 w' => ∃ (x5_3 : List (List Bool)) (x8_3 : Int), v8 = .int .i64 x8_3 ∧ Aside0 (lambrequinref20_Ahead.l2 kq l0 l1 x5_3 x7_2 x8_3 = some r) ∧ Aside0 (kq ≤ k2) ∧ Aside0 (Kd.S (Kd.slice 4 Kd.bool) 41 w' w.heap.size (fun _ => True) u5 x5_3) ∧ Aside0 (Below w.heap.size w w'))
       case atStart => exact ⟨(x5_2), (0), (by first | rfl | (simp; done) | (simp [*]; done)), H', ⟨Nat.le_refl _⟩, ⟨by (with_reducible repeat (first | apply Kd.S_alloc | apply Kd.S_drewN | apply Kd.S_drew)); exact HO_5.out⟩, ⟨by repeat (first | (with_reducible first | exact HB.out | apply lA | apply lN | apply lD) | exact HB.out)⟩⟩
       case round =>
        clear H'
        try clear c1
        try clear p2
        try clear c3
        try clear c3b0
        try clear c4
        try clear c4b0
        try clear c4b1
        try clear c5
        try clear c5b0
        try clear c5b1
        try clear c6
        try clear p6
        try clear c11
        try clear c11b0
        try clear p2
        try clear p6
        obtain ⟨x5_3, x8_3, rfl, HA, HK3, HO_5, HB⟩ := hrel
        cases gk with
        | zero => exact absurd HA.out (by simp [lambrequinref20_Ahead.l2])
        | succ k3 =>
         have H := HA.out
         clear HA
         simp only [lambrequinref20_Ahead.l2] at H
         by_cases c12 : x8_3 < (l0.length : Int)
         ·rw [if_pos c12] at H
          have c12b0 : decide (x8_3 < (l0.length : Int)) = true := decide_eq_true c12
          clear c12
          by_cases c13 : 0 ≤ x8_3
          ·rw [if_pos c13] at H
           have c13b0 : decide (0 ≤ x8_3) = true := decide_eq_true c13
           clear c13
           by_cases c14 : x8_3 < (x5_3.length : Int)
           ·rw [if_pos c14] at H
            have c14b0 : decide (x8_3 < (x5_3.length : Int)) = true := decide_eq_true c14
            clear c14
            replace H := Option.bind_eq_some_iff.mp H
            obtain ⟨t109, A150, H⟩ := H
            replace H : (lambrequinref20_Ahead.l3 k3 l0 l1 x5_3 x7_2 x8_3 t109 0) = some r := H
            have A15 := am A150
            clear A150
            have H' := am H
            clear H
            try go_wp2
            replace HO_5 := am (Kd.S_drew HO_5.out)
            replace HB := am (below_drew1 HB.out)
            have p107 : 0 ≤ (x8_3 : Int) := of_decide_eq_true (by first | (with_reducible assumption) | assumption)
            have q107 : x8_3 < (l0.length : Int) := of_decide_eq_true (by first | (with_reducible assumption) | assumption)
            obtain ⟨ad107, e107, hx107_0, hx107_1, hx107_2, hx107_3, hx107_4, hx107_5, hx107_6, hx107_7⟩ := at_T30 HR0.out x8_3 p107 q107
            have hw107_7 := hx107_7
            have hw107_6 := hx107_6
            have hw107_5 := hx107_5
            have hw107_4 := hx107_4
            have hw107_3 := hx107_3
            have hw107_2 := hx107_2
            have hw107_1 := hx107_1
            have hw107_0 := hx107_0
            cases e107
            replace hx107_0 := (HB.out.cell (blt_ hx107_0)).trans hx107_0
            replace hx107_1 := (HB.out.cell (blt_ hx107_1)).trans hx107_1
            replace hx107_2 := (HB.out.cell (blt_ hx107_2)).trans hx107_2
            replace hx107_3 := (HB.out.cell (blt_ hx107_3)).trans hx107_3
            replace hx107_4 := (HB.out.cell (blt_ hx107_4)).trans hx107_4
            replace hx107_5 := (HB.out.cell (blt_ hx107_5)).trans hx107_5
            replace hx107_6 := (HB.out.cell (blt_ hx107_6)).trans hx107_6
            replace hx107_7 := (HB.out.cell (blt_ hx107_7)).trans hx107_7
            replace p107 := eq_true p107
            replace q107 := eq_true q107
            obtain ⟨Ao17, co17, eo17⟩ := Kd.S_slice HO_5.out
            (first | subst eo17 | (injection eo17 with f1_ f2_ f3_; have f4_ := f1_.symm; have f5_ := f3_.symm; clear f1_ f2_ f3_; subst f4_; subst f5_))
            have p108 : 0 ≤ (x8_3 : Int) := of_decide_eq_true (by first | (with_reducible assumption) | assumption)
            have q108 : x8_3 < (x5_3.length : Int) := of_decide_eq_true (by first | (with_reducible assumption) | assumption)
            obtain ⟨ad108, A108_0, c108_0, e108, hx108_0, hl108_0, hi108_0⟩ := at_L6 (Kd.S_reads' HO_5.out).2.2 x8_3 p108 q108
            cases e108
            obtain ⟨ce108, hce108, hMe108, hcc108⟩ := Kd.S_get HO_5.out [] x8_3 p108 (by first | exact q108 | exact of_decide_eq_true (by first | (with_reducible assumption) | assumption) | (have e_ := (Kd.S_reads' HO_5.out).1; omega))
            obtain ⟨ve108_0, rfl, ge108_0⟩ := hMe108
            have hv108_0 := hcc108 0 _ rfl
            rw [Nat.add_zero, show ((Kd.slice 4 Kd.bool)).sz = 1 from rfl, Nat.mul_one] at hv108_0
            replace hv108_0 := Option.some.inj (hv108_0.symm.trans hx108_0)
            rw [hv108_0] at ge108_0
            have HL108_0 := am (show Kd.R Kd.bool 4 _ _ _ _ (rd_L6 x5_3 x8_3) from ge108_0)
            clear hv108_0 ge108_0
            have HX108_0 := am hx108_0
            clear hcc108 hce108
            have HR108_0 := am hi108_0
            have HC108_0 := am hl108_0
            clear hi108_0 hl108_0
            replace p108 := eq_true p108
            replace q108 := eq_true q108
            refine start_ (n := 11) (S := fun w' => w'.cell? (ad107.add ((x8_3).toNat * 8)) = some (.int .i64 ((rd_T30 l0 x8_3).kind)) ∧ w'.cell? ⟨(ad107.add ((x8_3).toNat * 8)).block, (ad107.add ((x8_3).toNat * 8)).off + 1, none⟩ = some (.string ((rd_T30 l0 x8_3).x)) ∧ w'.cell? ⟨(ad107.add ((x8_3).toNat * 8)).block, (ad107.add ((x8_3).toNat * 8)).off + 2, none⟩ = some (.string ((rd_T30 l0 x8_3).y)) ∧ w'.cell? ⟨(ad107.add ((x8_3).toNat * 8)).block, (ad107.add ((x8_3).toNat * 8)).off + 3, none⟩ = some (.string ((rd_T30 l0 x8_3).z)) ∧ w'.cell? ⟨(ad107.add ((x8_3).toNat * 8)).block, (ad107.add ((x8_3).toNat * 8)).off + 4, none⟩ = some (.string ((rd_T30 l0 x8_3).op)) ∧ w'.cell? ⟨(ad107.add ((x8_3).toNat * 8)).block, (ad107.add ((x8_3).toNat * 8)).off + 5, none⟩ = some (.int .i64 ((rd_T30 l0 x8_3).n)) ∧ w'.cell? ⟨(ad107.add ((x8_3).toNat * 8)).block, (ad107.add ((x8_3).toNat * 8)).off + 6, none⟩ = some (.int .i64 ((rd_T30 l0 x8_3).a)) ∧ w'.cell? ⟨(ad107.add ((x8_3).toNat * 8)).block, (ad107.add ((x8_3).toNat * 8)).off + 7, none⟩ = some (.int .i64 ((rd_T30 l0 x8_3).b)) ∧ w'.cell? (ad108.add (x8_3).toNat) = some (.slice A108_0 (rd_L6 x5_3 x8_3).length c108_0)) (ds := []) (bl 11 0) (by kernel_rfl) rfl rfl ⟨((HB.out.cell (blt_ hw107_0)).trans hw107_0), ((HB.out.cell (blt_ hw107_1)).trans hw107_1), ((HB.out.cell (blt_ hw107_2)).trans hw107_2), ((HB.out.cell (blt_ hw107_3)).trans hw107_3), ((HB.out.cell (blt_ hw107_4)).trans hw107_4), ((HB.out.cell (blt_ hw107_5)).trans hw107_5), ((HB.out.cell (blt_ hw107_6)).trans hw107_6), ((HB.out.cell (blt_ hw107_7)).trans hw107_7), hx108_0⟩ (fun hHeld => ?_); refine with_tabW lambrequinref20_Ahead.tab12 lambrequinref20_Ahead.bits12 (fun HT_ HW_ => ?_)
            generalize wr.drew = w16 at HO_5 HB HL108_0 HR108_0 HX108_0 hx107_0 hx107_1 hx107_2 hx107_3 hx107_4 hx107_5 hx107_6 hx107_7 hx108_0 hHeld ⊢
            refine pure_ (i := 0) (N := some 39) (v := ?_) (a' := ?_) (bl 11 1) rfl rfl (any_of HT_.out (by kernel_rfl)) (fun _ _ _ h => h) (Or.inl ⟨by rfl, ?_⟩) ?_ ?_
            rotate_left
            ·intro w'
             go_simp
             with_reducible rfl
            rotate_left
            ·simp only [Act.put, sA, sZ, sS, i64_w, i32_w]
             rfl
            refine pure_ (i := 1) (N := some 40) (v := ?_) (a' := ?_) (bl 11 3) rfl rfl (any_of HT_.out (by kernel_rfl)) (fun _ _ _ h => h) (Or.inl ⟨by rfl, ?_⟩) ?_ ?_
            rotate_left
            ·intro w'
             go_simp
             with_reducible rfl
            rotate_left
            ·simp only [Act.put, sA, sZ, sS, i64_w, i32_w]
             rfl
            refine pure_ (i := 2) (N := some 41) (v := ?_) (a' := ?_) (bl 11 7) rfl rfl (any_of HT_.out (by kernel_rfl)) (fun _ _ _ h => h) (Or.inl ⟨by rfl, ?_⟩) ?_ ?_
            rotate_left
            ·intro w'
             go_simp
             with_reducible rfl
            rotate_left
            ·simp only [Act.put, sA, sZ, sS, i64_w, i32_w]
             rfl
            refine pure_ (i := 4) (N := some 43) (v := ?_) (a' := ?_) (bl 11 23) rfl rfl (any_of HT_.out (by kernel_rfl)) (fun _ _ _ h => h) (Or.inl ⟨by rfl, ?_⟩) ?_ ?_
            rotate_left
            ·intro w'
             go_simp
             with_reducible rfl
            rotate_left
            ·simp only [Act.put, sA, sZ, sS, i64_w, i32_w]
             rfl
            refine pure_ (i := 5) (N := some 44) (v := ?_) (a' := ?_) (bl 11 55) rfl rfl (any_of HT_.out (by kernel_rfl)) (fun _ _ _ h => h) (Or.inl ⟨by rfl, ?_⟩) ?_ ?_
            rotate_left
            ·intro w'
             go_simp
             with_reducible rfl
            rotate_left
            ·simp only [Act.put, sA, sZ, sS, i64_w, i32_w]
             rfl
            refine pure_ (i := 6) (N := some 45) (v := ?_) (a' := ?_) (bl 11 119) rfl rfl (any_of HT_.out (by kernel_rfl)) (fun _ _ _ h => h) (Or.inl ⟨by rfl, ?_⟩) ?_ ?_
            rotate_left
            ·intro w'
             go_simp
             with_reducible rfl
            rotate_left
            ·simp only [Act.put, sA, sZ, sS, i64_w, i32_w]
             rfl
            refine pure_ (i := 7) (N := some 46) (v := ?_) (a' := ?_) (bl 11 247) rfl rfl (any_of HT_.out (by kernel_rfl)) (fun _ _ _ h => h) (Or.inl ⟨by rfl, ?_⟩) ?_ ?_
            rotate_left
            ·intro w'
             go_simp
             with_reducible rfl
            rotate_left
            ·simp only [Act.put, sA, sZ, sS, i64_w, i32_w]
             rfl
            refine take_ (i := 3) (N := some 42) (v := ?_) (a' := ?_) (bl 11 255) rfl rfl (take_ofW HT_.out HW_.out (by kernel_rfl)) (fun _ _ _ h => h) (Or.inl ⟨by rfl, ?_⟩) hHeld ?_ ?_
            rotate_left
            ·rintro w' ⟨s0, s1, s2, s3, s4, s5, s6, s7, s8⟩
             go_simp
             with_reducible rfl
            rotate_left
            ·simp only [Act.put, sA, sZ, sS, i64_w, i32_w]
             rfl
            refine take_ (i := 8) (N := some 47) (v := ?_) (a' := ?_) (bl 11 511) rfl rfl (take_ofW HT_.out HW_.out (by kernel_rfl)) (fun _ _ _ h => h) (Or.inl ⟨by rfl, ?_⟩) hHeld ?_ ?_
            rotate_left
            ·rintro w' ⟨s0, s1, s2, s3, s4, s5, s6, s7, s8⟩
             go_simp
             with_reducible rfl
            rotate_left
            ·simp only [Act.put, sA, sZ, sS, i64_w, i32_w]
             rfl
            refine one_ (i := 9) (N := some 48) (bl 11 1023) rfl rfl (one_of HT_.out (by kernel_rfl)) (by decide) (fun K hK => ?_)
            refine goes_ Try.func78 (by kernel_rfl) rfl #[.agg #[.int .i64 ((rd_T30 l0 x8_3).kind), .string ((rd_T30 l0 x8_3).x), .string ((rd_T30 l0 x8_3).y), .string ((rd_T30 l0 x8_3).z), .string ((rd_T30 l0 x8_3).op), .int .i64 ((rd_T30 l0 x8_3).n), .int .i64 ((rd_T30 l0 x8_3).a), .int .i64 ((rd_T30 l0 x8_3).b)], .slice A1 l1.length c1, .slice A108_0 (rd_L6 x5_3 x8_3).length c108_0] (by rfl) rfl rfl (by (try simp only [List.map_toArray, List.map_cons, List.map_nil]); first | done | rfl | (simp only [List.length_drop, List.length_take]; rfl)) ?_
            with_reducible refine (lambrequinref20_behind.calls k3 ((rd_T30 l0 x8_3).kind) ((rd_T30 l0 x8_3).x) ((rd_T30 l0 x8_3).y) ((rd_T30 l0 x8_3).z) ((rd_T30 l0 x8_3).op) ((rd_T30 l0 x8_3).n) ((rd_T30 l0 x8_3).a) ((rd_T30 l0 x8_3).b) _ _ l1 _ _ (rd_L6 x5_3 x8_3) t109 _ ?side1 ?side2 ?side3 ?side4 A15.out).mono ?_
            (case side1 => repeat (first | exact (Kd.C_below HR1.out HB.out) | (with_reducible refine Kd.C_alloc ?_ _) | (with_reducible refine Kd.C_drewN ?_ _) | (with_reducible refine Kd.C_drew ?_)))
            (case side2 => exact HC1.out)
            (case side3 => repeat (first | exact (by repeat (first | (with_reducible exact HR108_0.out) | (with_reducible refine Kd.C_alloc ?_ _) | (with_reducible refine Kd.C_drewN ?_ _) | (with_reducible refine Kd.C_drew ?_) | exact HR108_0.out)) | (with_reducible refine Kd.C_alloc ?_ _) | (with_reducible refine Kd.C_drewN ?_ _) | (with_reducible refine Kd.C_drew ?_)))
            (case side4 => exact HC108_0.out)
            rintro e w18 ⟨v110, rfl, ho0, hb⟩
            have HS8_ := (hb.cell (blt_ (hHeld.2.2.2.2.2.2.2.2))).trans (hHeld.2.2.2.2.2.2.2.2)
            refine ⟨_, rfl, ?_⟩
            replace HO_5 := am (Kd.S_elder' (by (with_reducible repeat (first | apply Kd.S_alloc | apply Kd.S_drewN | apply Kd.S_drew)); exact HO_5.out) (Kd.R_base ho0) hb)
            have HO111 := am (Kd.R_lower (Kd.R_new' ho0 (Kd.R_lt (by (with_reducible repeat (first | apply Ra | apply Rn | apply Rd)); exact HL108_0.out))) (below_size (by repeat (first | (with_reducible first | exact HB.out | apply lA | apply lN | apply lD) | exact HB.out))))
            replace HL108_0 := am (Kd.R_elder' (by (with_reducible repeat (first | apply Ra | apply Rn | apply Rd)); exact HL108_0.out) (Kd.R_base ho0) hb)
            replace HR108_0 := am (Kd.C_below (by repeat (first | (with_reducible exact HR108_0.out) | (with_reducible refine Kd.C_alloc ?_ _) | (with_reducible refine Kd.C_drewN ?_ _) | (with_reducible refine Kd.C_drew ?_) | exact HR108_0.out)) hb)
            replace HX108_0 := am (pw_cell_below hb HX108_0.out)
            replace HB := am (below_step (by repeat (first | (with_reducible first | exact HB.out | apply lA | apply lN | apply lD) | exact HB.out)) hb)
            (try clear hb)
            (try clear hb2)
            (try clear hk)
            (try clear hi)
            (try clear ho0)
            refine hK.out _ _ ⟨((HB.out.cell (blt_ hw107_0)).trans hw107_0), ((HB.out.cell (blt_ hw107_1)).trans hw107_1), ((HB.out.cell (blt_ hw107_2)).trans hw107_2), ((HB.out.cell (blt_ hw107_3)).trans hw107_3), ((HB.out.cell (blt_ hw107_4)).trans hw107_4), ((HB.out.cell (blt_ hw107_5)).trans hw107_5), ((HB.out.cell (blt_ hw107_6)).trans hw107_6), ((HB.out.cell (blt_ hw107_7)).trans hw107_7), HS8_⟩ (fun hHeld => ?_)
            clear hK K
            refine norm_ (a' := ?_) ?_ ?_
            rotate_left
            ·show Act.put _ (some 48) _ = _
             simp only [Act.put, sA, sZ, sS, i64_w, i32_w]
             rfl
            refine pure_ (i := 10) (N := some 9) (v := ?_) (a' := ?_) (bl 11 2047) rfl rfl (any_of HT_.out (by kernel_rfl)) (fun _ _ _ h => h) (Or.inl ⟨by rfl, ?_⟩) ?_ ?_
            rotate_left
            ·intro w'
             go_simp
             with_reducible rfl
            rotate_left
            ·simp only [Act.put, sA, sZ, sS, i64_w, i32_w]
             rfl
            refine done_ (done_of HT_.out (by kernel_rfl)) ?_
            try go_wp2
            go_loopg [10] k3 (fun kq v10 w' => ∃ (x5_4 : List (List Bool)) (x9_4 : List Bool) (x10_4 : Int), v10 = .int .i64 x10_4 ∧ Aside0 (lambrequinref20_Ahead.l3 kq l0 l1 x5_4 x7_2 x8_3 x9_4 x10_4 = some r) ∧ Aside0 (kq ≤ k3) ∧ Aside0 (Kd.S (Kd.slice 4 Kd.bool) 41 w' w.heap.size (fun k_ => some k_ ≠ (v110 : Value).ownBlock) (.slice (some ad108) x5_3.length co17) x5_4) ∧ Aside0 (Kd.R Kd.bool 4 w' w.heap.size (fun _ => True) v110 x9_4) ∧ Aside0 (Below w.heap.size w w'))
            case atStart => exact ⟨(x5_3), (t109), (0), (by first | rfl | (simp; done) | (simp [*]; done)), H', ⟨Nat.le_refl _⟩, ⟨by (with_reducible repeat (first | apply Kd.S_alloc | apply Kd.S_drewN | apply Kd.S_drew)); exact Kd.S_mono HO_5.out (fun _ hk => hk.2)⟩, ⟨by (with_reducible repeat (first | apply Ra | apply Rn | apply Rd)); exact Kd.R_mono HO111.out (fun _ hk => trivial)⟩, ⟨by repeat (first | (with_reducible first | exact HB.out | apply lA | apply lN | apply lD) | exact HB.out)⟩⟩
            case round =>
             clear H'
             try clear c1
             try clear p1
             try clear q1
             try clear hx1
             try clear p2
             try clear c3
             try clear c3b0
             try clear c4
             try clear c4b0
             try clear c4b1
             try clear c5
             try clear c5b0
             try clear c5b1
             try clear c6
             try clear p6
             try clear c7
             try clear c10
             try clear p10
             try clear q10
             try clear hx10
             try clear c11
             try clear c11b0
             try clear c12
             try clear c12b0
             try clear c13
             try clear c13b0
             try clear c14
             try clear c14b0
             try clear hx107_0
             try clear hx107_1
             try clear hx107_2
             try clear hx107_3
             try clear hx107_4
             try clear hx107_5
             try clear hx107_6
             try clear hx107_7
             try clear hx108_0
             try clear p107
             try clear p108
             try clear p2
             try clear p6
             try clear q107
             try clear q108
             obtain ⟨x5_4, x9_4, x10_4, rfl, HA, HK4, HO_5, HO_9, HB⟩ := hrel
             have hl5_4 := (Kd.S_reads' HO_5.out).1
             rw [hl5_4] at HO_5
             (try simp only [hl5_4])
             (try simp only [hl5_4] at HO_9)
             cases gk with
             | zero => exact absurd HA.out (by simp [lambrequinref20_Ahead.l3])
             | succ k4 =>
              have H := HA.out
              clear HA
              simp only [lambrequinref20_Ahead.l3] at H
              by_cases c19 : x10_4 < (l0.length : Int)
              ·rw [if_pos c19] at H
               have c19b0 : decide (x10_4 < (l0.length : Int)) = true := decide_eq_true c19
               clear c19
               have H' := am H
               clear H
               go_wp2
               go_loopg [11] k4 (fun kq v11 w' => ∃ (x5_5 : List (List Bool)) (x9_5 : List Bool) (x11_5 : Int), v11 = .int .i64 x11_5 ∧ Aside0 (lambrequinref20_Ahead.l4 kq l0 l1 x5_5 x7_2 x8_3 x9_5 x10_4 x11_5 = some r) ∧ Aside0 (kq ≤ k4) ∧ Aside0 (Kd.S (Kd.slice 4 Kd.bool) 41 w' w.heap.size (fun k_ => some k_ ≠ (v110 : Value).ownBlock) (.slice (some ad108) x5_4.length co17) x5_5) ∧ Aside0 (Kd.R Kd.bool 4 w' w.heap.size (fun _ => True) v110 x9_5) ∧ Aside0 (Below w.heap.size w w'))
               case atStart => exact ⟨(x5_4), (x9_4), (0), (by first | rfl | (simp; done) | (simp [*]; done)), H', ⟨Nat.le_refl _⟩, ⟨by (try simp only [hl5_4]); (with_reducible repeat (first | apply Kd.S_alloc | apply Kd.S_drewN | apply Kd.S_drew)); exact HO_5.out⟩, ⟨by (try simp only [hl5_4]); (with_reducible repeat (first | apply Ra | apply Rn | apply Rd)); exact HO_9.out⟩, ⟨by repeat (first | (with_reducible first | exact HB.out | apply lA | apply lN | apply lD) | exact HB.out)⟩⟩
               case round =>
                clear H'
                try clear c1
                try clear p1
                try clear q1
                try clear hx1
                try clear p2
                try clear c3
                try clear c3b0
                try clear c4
                try clear c4b0
                try clear c4b1
                try clear c5
                try clear c5b0
                try clear c5b1
                try clear c6
                try clear p6
                try clear c7
                try clear c10
                try clear p10
                try clear q10
                try clear hx10
                try clear c11
                try clear c11b0
                try clear c12
                try clear c12b0
                try clear c13
                try clear c13b0
                try clear c14
                try clear c14b0
                try clear c19
                try clear c19b0
                try clear hx107_0
                try clear hx107_1
                try clear hx107_2
                try clear hx107_3
                try clear hx107_4
                try clear hx107_5
                try clear hx107_6
                try clear hx107_7
                try clear hx108_0
                try clear p1
                try clear p10
                try clear p107
                try clear p108
                try clear p2
                try clear p6
                try clear q1
                try clear q10
                try clear q107
                try clear q108
                obtain ⟨x5_5, x9_5, x11_5, rfl, HA, HK5, HO_5, HO_9, HB⟩ := hrel
                have hl5_5 := (Kd.S_reads' HO_5.out).1
                rw [hl5_5] at HO_5
                (try simp only [hl5_5])
                (try simp only [hl5_5] at HO_9)
                cases gk with
                | zero => exact absurd HA.out (by simp [lambrequinref20_Ahead.l4])
                | succ k5 =>
                 have H := HA.out
                 clear HA
                 simp only [lambrequinref20_Ahead.l4] at H
                 by_cases c20 : x11_5 < (l1.length : Int)
                 ·rw [if_pos c20] at H
                  have c20b0 : decide (x11_5 < (l1.length : Int)) = true := decide_eq_true c20
                  clear c20
                  replace H := Option.bind_eq_some_iff.mp H
                  obtain ⟨t112, A210, H⟩ := H
                  replace H : (if t112 = true then (if 0 ≤ x10_4 then (if x10_4 < (x5_5.length : Int) then (if 0 ≤ x11_5 then (if x11_5 < ((rd_L6 x5_5 x10_4).length : Int) then (if rdOf false (rd_L6 x5_5 x10_4) x11_5 = true then (lambrequinref20_Ahead.l4 k5 l0 l1 (x5_5.set (x10_4 : Int).toNat ((rd_L6 x5_5 x10_4).set (x11_5 : Int).toNat true)) x7_2 x8_3 x9_5 x10_4 (wrap64 (x11_5 + 1))) else (if x11_5 < (x9_5.length : Int) then (lambrequinref20_Ahead.l4 k5 l0 l1 (x5_5.set (x10_4 : Int).toNat ((rd_L6 x5_5 x10_4).set (x11_5 : Int).toNat (rdOf false x9_5 x11_5))) x7_2 x8_3 x9_5 x10_4 (wrap64 (x11_5 + 1))) else (none))) else (none)) else (none)) else (none)) else (none)) else (lambrequinref20_Ahead.l3 k5 l0 l1 x5_5 x7_2 x8_3 x9_5 (wrap64 (x10_4 + 1)))) = some r := H
                  have A21 := am A210
                  clear A210
                  by_cases c22 : t112 = true
                  ·subst c22
                   have H1 : (if 0 ≤ x10_4 then (if x10_4 < (x5_5.length : Int) then (if 0 ≤ x11_5 then (if x11_5 < ((rd_L6 x5_5 x10_4).length : Int) then (if rdOf false (rd_L6 x5_5 x10_4) x11_5 = true then (lambrequinref20_Ahead.l4 k5 l0 l1 (x5_5.set (x10_4 : Int).toNat ((rd_L6 x5_5 x10_4).set (x11_5 : Int).toNat true)) x7_2 x8_3 x9_5 x10_4 (wrap64 (x11_5 + 1))) else (if x11_5 < (x9_5.length : Int) then (lambrequinref20_Ahead.l4 k5 l0 l1 (x5_5.set (x10_4 : Int).toNat ((rd_L6 x5_5 x10_4).set (x11_5 : Int).toNat (rdOf false x9_5 x11_5))) x7_2 x8_3 x9_5 x10_4 (wrap64 (x11_5 + 1))) else (none))) else (none)) else (none)) else (none)) else (none)) = some r := by rw [if_pos rfl] at H; exact H
                   clear H
                   have H := H1
                   clear H1
                   by_cases c23 : 0 ≤ x10_4
                   ·rw [if_pos c23] at H
                    have c23b0 : decide (0 ≤ x10_4) = true := decide_eq_true c23
                    clear c23
                    by_cases c24 : x10_4 < (x5_5.length : Int)
                    ·rw [if_pos c24] at H
                     have c24b0 : decide (x10_4 < (x5_5.length : Int)) = true := decide_eq_true c24
                     clear c24
                     by_cases c25 : 0 ≤ x11_5
                     ·rw [if_pos c25] at H
                      have c25b0 : decide (0 ≤ x11_5) = true := decide_eq_true c25
                      clear c25
                      by_cases c26 : x11_5 < ((rd_L6 x5_5 x10_4).length : Int)
                      ·rw [if_pos c26] at H
                       have c26b0 : decide (x11_5 < ((rd_L6 x5_5 x10_4).length : Int)) = true := decide_eq_true c26
                       clear c26
                       obtain ⟨bq27, hbq27⟩ : ∃ b_ : Bool, b_ = (rdOf false (rd_L6 x5_5 x10_4) x11_5) := ⟨_, rfl⟩
                       replace H : (if bq27 = true then (lambrequinref20_Ahead.l4 k5 l0 l1 (x5_5.set (x10_4 : Int).toNat ((rd_L6 x5_5 x10_4).set (x11_5 : Int).toNat true)) x7_2 x8_3 x9_5 x10_4 (wrap64 (x11_5 + 1))) else (if x11_5 < (x9_5.length : Int) then (lambrequinref20_Ahead.l4 k5 l0 l1 (x5_5.set (x10_4 : Int).toNat ((rd_L6 x5_5 x10_4).set (x11_5 : Int).toNat (rdOf false x9_5 x11_5))) x7_2 x8_3 x9_5 x10_4 (wrap64 (x11_5 + 1))) else (none))) = some r := by rw [← hbq27] at H; exact H
                       have Nbq27 := am hbq27
                       clear hbq27
                       by_cases c28 : bq27 = true
                       ·subst c28
                        have H1 : (lambrequinref20_Ahead.l4 k5 l0 l1 (x5_5.set (x10_4 : Int).toNat ((rd_L6 x5_5 x10_4).set (x11_5 : Int).toNat true)) x7_2 x8_3 x9_5 x10_4 (wrap64 (x11_5 + 1))) = some r := by rw [if_pos rfl] at H; exact H
                        clear H
                        have H := H1
                        clear H1
                        obtain ⟨y116, hy116⟩ : ∃ y_ : List Bool, y_ = ((rd_L6 x5_5 x10_4).set (x11_5 : Int).toNat true) := ⟨_, rfl⟩
                        replace H : (lambrequinref20_Ahead.l4 k5 l0 l1 (x5_5.set (x10_4 : Int).toNat y116) x7_2 x8_3 x9_5 x10_4 (wrap64 (x11_5 + 1))) = some r := by first | (rw [hy116]; with_reducible exact H) | (have H2_ := (Option.bind_some _ _).symm.trans H; rw [hy116]; with_reducible exact H2_) | (have H2_ := (Option.bind_some _ _).symm.trans H; with_reducible exact H2_) | with_reducible exact H | (rw [hy116]; exact H) | exact H
                        have Ny116 := am hy116
                        clear hy116
                        obtain ⟨y118, hy118⟩ : ∃ y_ : List (List Bool), y_ = (x5_5.set (x10_4 : Int).toNat y116) := ⟨_, rfl⟩
                        replace H : (lambrequinref20_Ahead.l4 k5 l0 l1 y118 x7_2 x8_3 x9_5 x10_4 (wrap64 (x11_5 + 1))) = some r := by first | (rw [hy118]; with_reducible exact H) | (have H2_ := (Option.bind_some _ _).symm.trans H; rw [hy118]; with_reducible exact H2_) | (have H2_ := (Option.bind_some _ _).symm.trans H; with_reducible exact H2_) | with_reducible exact H | (rw [hy118]; exact H) | exact H
                        have Ny118 := am hy118
                        clear hy118
                        have H' := am H
                        clear H
                        try go_wp2_with (first | (go_at_call 53; (with_reducible refine (lambrequinref20_Leads.calls k5 _ _ l0 x8_3 x10_4 true _ ?side1 ?side2 A21.out).mono ?_); (case side1 => repeat (first | exact (Kd.C_below HR0.out HB.out) | (with_reducible refine Kd.C_alloc ?_ _) | (with_reducible refine Kd.C_drewN ?_ _) | (with_reducible refine Kd.C_drew ?_))); (case side2 => exact HC0.out); rintro e w' ⟨rfl, ⟨nd, rfl⟩⟩; (try (rw [drewN_self wr]; generalize hq_ : World.drewN wr _ = wr; replace HO_5 : Aside0 (Kd.S (Kd.slice 4 Kd.bool) 41 wr w.heap.size (fun k_ => some k_ ≠ (v110 : Value).ownBlock) (.slice (some ad108) x5_5.length co17) x5_5) := ⟨by rw [← hq_]; exact (by (with_reducible repeat (first | apply Kd.S_alloc | apply Kd.S_drewN | apply Kd.S_drew)); exact HO_5.out)⟩; replace HO_9 : Aside0 (Kd.R Kd.bool 4 wr w.heap.size (fun _ => True) v110 x9_5) := ⟨by rw [← hq_]; exact (by (with_reducible repeat (first | apply Ra | apply Rn | apply Rd)); exact HO_9.out)⟩; replace HB : Aside0 (Below w.heap.size w wr) := ⟨by rw [← hq_]; exact (by repeat (first | (with_reducible first | exact HB.out | apply lA | apply lN | apply lD) | exact HB.out))⟩; clear hq_))))
                        replace HO_5 := am (Kd.S_drew HO_5.out)
                        replace HO_9 := am (Kd.R_drew HO_9.out)
                        replace HB := am (below_drew1 HB.out)
                        have p113 : 0 ≤ (x10_4 : Int) := of_decide_eq_true (by first | (with_reducible assumption) | assumption)
                        have q113 : x10_4 < (x5_5.length : Int) := of_decide_eq_true (by first | (with_reducible assumption) | assumption)
                        obtain ⟨ad113, A113_0, c113_0, e113, hx113_0, hl113_0, hi113_0⟩ := at_L6 (Kd.S_reads' HO_5.out).2.2 x10_4 p113 q113
                        obtain rfl : ad108 = ad113 := (by injection e113)
                        obtain ⟨ce113, hce113, hMe113, hcc113⟩ := Kd.S_get HO_5.out [] x10_4 p113 (by first | exact q113 | exact of_decide_eq_true (by first | (with_reducible assumption) | assumption) | (have e_ := (Kd.S_reads' HO_5.out).1; omega))
                        obtain ⟨ve113_0, rfl, ge113_0⟩ := hMe113
                        have hv113_0 := hcc113 0 _ rfl
                        rw [Nat.add_zero, show ((Kd.slice 4 Kd.bool)).sz = 1 from rfl, Nat.mul_one] at hv113_0
                        replace hv113_0 := Option.some.inj (hv113_0.symm.trans hx113_0)
                        rw [hv113_0] at ge113_0
                        have HL113_0 := am (show Kd.R Kd.bool 4 _ _ _ _ (rd_L6 x5_5 x10_4) from ge113_0)
                        clear hv113_0 ge113_0
                        have HX113_0 := am hx113_0
                        clear hcc113 hce113
                        have HR113_0 := am hi113_0
                        have HC113_0 := am hl113_0
                        clear hi113_0 hl113_0
                        replace p113 := eq_true p113
                        replace q113 := eq_true q113
                        have p114 : 0 ≤ (x10_4 : Int) := of_decide_eq_true (by first | (with_reducible assumption) | assumption)
                        have q114 : x10_4 < (x5_5.length : Int) := of_decide_eq_true (by first | (with_reducible assumption) | assumption)
                        obtain ⟨ad114, A114_0, c114_0, e114, hx114_0, hl114_0, hi114_0⟩ := at_L6 (Kd.S_reads' HO_5.out).2.2 x10_4 p114 q114
                        obtain rfl : ad108 = ad114 := (by injection e114)
                        obtain ⟨ce114, hce114, hMe114, hcc114⟩ := Kd.S_get HO_5.out [] x10_4 p114 (by first | exact q114 | exact of_decide_eq_true (by first | (with_reducible assumption) | assumption) | (have e_ := (Kd.S_reads' HO_5.out).1; omega))
                        obtain ⟨ve114_0, rfl, ge114_0⟩ := hMe114
                        have hv114_0 := hcc114 0 _ rfl
                        rw [Nat.add_zero, show ((Kd.slice 4 Kd.bool)).sz = 1 from rfl, Nat.mul_one] at hv114_0
                        replace hv114_0 := Option.some.inj (hv114_0.symm.trans hx114_0)
                        rw [hv114_0] at ge114_0
                        have HL114_0 := am (show Kd.R Kd.bool 4 _ _ _ _ (rd_L6 x5_5 x10_4) from ge114_0)
                        clear hv114_0 ge114_0
                        have HX114_0 := am hx114_0
                        clear hcc114 hce114
                        have HR114_0 := am hi114_0
                        have HC114_0 := am hl114_0
                        clear hi114_0 hl114_0
                        replace p114 := eq_true p114
                        replace q114 := eq_true q114
                        have ea_ := Option.some.inj (hx113_0.symm.trans hx114_0)
                        injection ea_ with ea_ en_ ec_
                        subst ea_
                        subst ec_
                        clear en_
                        have p115 : 0 ≤ (x11_5 : Int) := of_decide_eq_true (by first | (with_reducible assumption) | assumption)
                        have q115 : x11_5 < ((rd_L6 x5_5 x10_4).length : Int) := of_decide_eq_true (by first | (with_reducible assumption) | assumption)
                        obtain ⟨ad115, e115, hx115_0⟩ := Kd.at_bool (by repeat (first | (with_reducible exact HR114_0.out) | (with_reducible refine Kd.C_alloc ?_ _) | (with_reducible refine Kd.C_drewN ?_ _) | (with_reducible refine Kd.C_drew ?_) | exact HR114_0.out)) x11_5 p115 q115
                        (try rw [← Nbq27.out] at hx115_0)
                        cases e115
                        replace p115 := eq_true p115
                        replace q115 := eq_true q115
                        have p29 : 0 ≤ (x11_5 : Int) := of_decide_eq_true (by first | (with_reducible assumption) | assumption)
                        have q29 : (x11_5 : Int) < (((rd_L6 x5_5 x10_4).length : Int) : Int) := of_decide_eq_true (by first | (with_reducible assumption) | assumption)
                        obtain ⟨go29, co29, eo29, gb29, gl29, cl29, HG29⟩ := Kd.R_form HL113_0.out (by omega)
                        (first | cases eo29 | (injection eo29 with ea_ en_ ec_; (first | subst ea_ | (injection ea_ with ea_; subst ea_)); subst ec_; clear en_))
                        have GB29 := am gb29
                        have GG29 := am HG29
                        clear gb29 gl29 HG29
                        (first | simp only [add_plain] at hx115_0 | skip)
                        obtain ⟨hx29_0, hf29_0⟩ := Kd.R_celln false HL113_0.out (x11_5 : Int) p29 q29
                        replace p29 := eq_true p29
                        replace q29 := eq_true q29
                        have hq31 : (x10_4 : Int) < (x5_5.length : Int) := (by have h_ : (x10_4 : Int) < ((x5_5.length : Int) : Int) := of_decide_eq_true (by first | (with_reducible assumption) | assumption); first | exact h_ | (have e_ := (Kd.S_reads' HO_5.out).1; omega) | simpa only [List.length_set, List.length_set] using h_)
                        obtain ⟨oki31, ce31, hcl31, hM31, hcc31, hok31, hbk31⟩ := Kd.S_borrow HO_5.out [] (x10_4 : Int) (of_decide_eq_true (by first | (with_reducible assumption) | assumption)) hq31
                        obtain ⟨ve31_0, rfl, ge31_0⟩ := hM31
                        have hv31 := hcc31 0 _ rfl
                        rw [Nat.add_zero, show ((Kd.slice 4 Kd.bool)).sz = 1 from rfl, Nat.mul_one] at hv31
                        replace hv31 := Option.some.inj (hv31.symm.trans HX113_0.out)
                        subst hv31
                        clear hcc31 hcl31
                        replace ge31_0 := (show Kd.R Kd.bool 4 _ _ _ _ (rd_L6 x5_5 x10_4) from ge31_0)
                        have HP31 := Kd.R_putg ge31_0 (x11_5 : Int) true
                        rw [← Ny116.out] at HP31
                        have HS31 := hbk31 HP31.2 (fun k_ e_ => by injection e_ with e_; subst e_; exact ge31_0.1 _ rfl) (x' := y116) (Kd.M_row HP31.1)
                        rw [← Ny118.out] at HS31
                        have HQ31 := am HS31
                        clear HP31 HS31 hbk31 hok31
                        refine start_ (n := 20) (S := fun w' => w'.cell? (ad108.add (x10_4).toNat) = some (.slice (some ⟨go29, 0, none⟩) (rd_L6 x5_5 x10_4).length c113_0) ∧ w'.cell? (ad108.add (x10_4).toNat) = some (.slice (some ⟨go29, 0, none⟩) (rd_L6 x5_5 x10_4).length c113_0) ∧ w'.cell? ⟨go29, (x11_5).toNat, none⟩ = some (.bool true)) (ds := [19]) (bl 20 0) (by kernel_rfl) rfl rfl ⟨hx113_0, hx114_0, hx115_0⟩ (fun hHeld => ?_); refine with_tabW lambrequinref20_Ahead.tab19 lambrequinref20_Ahead.bits19 (fun HT_ HW_ => ?_)
                        generalize wr.drew = w30 at HO_5 HO_9 HB GG29 HL113_0 HL114_0 HQ31 HR113_0 HR114_0 HX113_0 HX114_0 hf29_0 hx113_0 hx114_0 hx115_0 hx29_0 hHeld ⊢
                        refine pure_ (i := 0) (N := some 67) (v := ?_) (a' := ?_) (bl 20 1) rfl rfl (any_of HT_.out (by kernel_rfl)) (fun _ _ _ h => h) (Or.inl ⟨by rfl, ?_⟩) ?_ ?_
                        rotate_left
                        ·intro w'
                         go_simp
                         with_reducible rfl
                        rotate_left
                        ·simp only [Act.put, sA, sZ, sS, i64_w, i32_w]
                         rfl
                        refine pure_ (i := 1) (N := some 68) (v := ?_) (a' := ?_) (bl 20 3) rfl rfl (any_of HT_.out (by kernel_rfl)) (fun _ _ _ h => h) (Or.inl ⟨by rfl, ?_⟩) ?_ ?_
                        rotate_left
                        ·intro w'
                         go_simp
                         with_reducible rfl
                        rotate_left
                        ·simp only [Act.put, sA, sZ, sS, i64_w, i32_w]
                         rfl
                        refine pure_ (i := 2) (N := some 69) (v := ?_) (a' := ?_) (bl 20 7) rfl rfl (any_of HT_.out (by kernel_rfl)) (fun _ _ _ h => h) (Or.inl ⟨by rfl, ?_⟩) ?_ ?_
                        rotate_left
                        ·intro w'
                         go_simp
                         with_reducible rfl
                        rotate_left
                        ·simp only [Act.put, sA, sZ, sS, i64_w, i32_w]
                         rfl
                        refine pure_ (i := 4) (N := some 71) (v := ?_) (a' := ?_) (bl 20 23) rfl rfl (any_of HT_.out (by kernel_rfl)) (fun _ _ _ h => h) (Or.inl ⟨by rfl, ?_⟩) ?_ ?_
                        rotate_left
                        ·intro w'
                         go_simp
                         with_reducible rfl
                        rotate_left
                        ·simp only [Act.put, sA, sZ, sS, i64_w, i32_w]
                         rfl
                        refine pure_ (i := 5) (N := some 72) (v := ?_) (a' := ?_) (bl 20 55) rfl rfl (any_of HT_.out (by kernel_rfl)) (fun _ _ _ h => h) (Or.inl ⟨by rfl, ?_⟩) ?_ ?_
                        rotate_left
                        ·intro w'
                         go_simp
                         with_reducible rfl
                        rotate_left
                        ·simp only [Act.put, sA, sZ, sS, i64_w, i32_w]
                         rfl
                        refine pure_ (i := 6) (N := some 73) (v := ?_) (a' := ?_) (bl 20 119) rfl rfl (any_of HT_.out (by kernel_rfl)) (fun _ _ _ h => h) (Or.inl ⟨by rfl, ?_⟩) ?_ ?_
                        rotate_left
                        ·intro w'
                         go_simp
                         with_reducible rfl
                        rotate_left
                        ·simp only [Act.put, sA, sZ, sS, i64_w, i32_w]
                         rfl
                        refine pure_ (i := 7) (N := some 74) (v := ?_) (a' := ?_) (bl 20 247) rfl rfl (any_of HT_.out (by kernel_rfl)) (fun _ _ _ h => h) (Or.inl ⟨by rfl, ?_⟩) ?_ ?_
                        rotate_left
                        ·intro w'
                         go_simp
                         with_reducible rfl
                        rotate_left
                        ·simp only [Act.put, sA, sZ, sS, i64_w, i32_w]
                         rfl
                        refine pure_ (i := 9) (N := some 76) (v := ?_) (a' := ?_) (bl 20 759) rfl rfl (any_of HT_.out (by kernel_rfl)) (fun _ _ _ h => h) (Or.inl ⟨by rfl, ?_⟩) ?_ ?_
                        rotate_left
                        ·intro w'
                         go_simp
                         with_reducible rfl
                        rotate_left
                        ·simp only [Act.put, sA, sZ, sS, i64_w, i32_w]
                         rfl
                        refine take_ (i := 3) (N := some 70) (v := ?_) (a' := ?_) (bl 20 767) rfl rfl (take_ofW HT_.out HW_.out (by kernel_rfl)) (fun _ _ _ h => h) (Or.inl ⟨by rfl, ?_⟩) hHeld ?_ ?_
                        rotate_left
                        ·rintro w' ⟨s0, s1, s2⟩
                         go_simp
                         with_reducible rfl
                        rotate_left
                        ·simp only [Act.put, sA, sZ, sS, i64_w, i32_w]
                         rfl
                        refine take_ (i := 8) (N := some 75) (v := ?_) (a' := ?_) (bl 20 1023) rfl rfl (take_ofW HT_.out HW_.out (by kernel_rfl)) (fun _ _ _ h => h) (Or.inl ⟨by rfl, ?_⟩) hHeld ?_ ?_
                        rotate_left
                        ·rintro w' ⟨s0, s1, s2⟩
                         go_simp
                         with_reducible rfl
                        rotate_left
                        ·simp only [Act.put, sA, sZ, sS, i64_w, i32_w]
                         rfl
                        refine pure_ (i := 10) (N := some 77) (v := ?_) (a' := ?_) (bl 20 2047) rfl rfl (any_of HT_.out (by kernel_rfl)) (fun _ _ _ h => h) (Or.inl ⟨by rfl, ?_⟩) ?_ ?_
                        rotate_left
                        ·intro w'
                         go_simp
                         with_reducible rfl
                        rotate_left
                        ·simp only [Act.put, sA, sZ, sS, i64_w, i32_w]
                         rfl
                        refine take_ (i := 11) (N := some 78) (v := ?_) (a' := ?_) (bl 20 4095) rfl rfl (take_ofW HT_.out HW_.out (by kernel_rfl)) (fun _ _ _ h => h) (Or.inl ⟨by rfl, ?_⟩) hHeld ?_ ?_
                        rotate_left
                        ·rintro w' ⟨s0, s1, s2⟩
                         go_simp
                         with_reducible rfl
                        rotate_left
                        ·simp only [Act.put, sA, sZ, sS, i64_w, i32_w]
                         rfl
                        refine pure_ (i := 12) (N := some 79) (v := ?_) (a' := ?_) (bl 20 8191) rfl rfl (any_of HT_.out (by kernel_rfl)) (fun _ _ _ h => h) (Or.inl ⟨by rfl, ?_⟩) ?_ ?_
                        rotate_left
                        ·intro w'
                         go_simp
                         with_reducible rfl
                        rotate_left
                        ·simp only [Act.put, sA, sZ, sS, i64_w, i32_w]
                         rfl
                        refine pure_ (i := 13) (N := some 80) (v := undef) (a' := ?_) (bl 20 16383) rfl rfl (any_of HT_.out (by kernel_rfl)) (fun _ _ _ h => h) (Or.inr ⟨by rfl, rfl⟩) ?_ ?_
                        rotate_left
                        ·simp only [Act.put, sA, sZ, sS, i64_w, i32_w]
                         rfl
                        refine pure_ (i := 14) (N := some 81) (v := undef) (a' := ?_) (bl 20 32767) rfl rfl (any_of HT_.out (by kernel_rfl)) (fun _ _ _ h => h) (Or.inr ⟨by rfl, rfl⟩) ?_ ?_
                        rotate_left
                        ·simp only [Act.put, sA, sZ, sS, i64_w, i32_w]
                         rfl
                        refine pure_ (i := 15) (N := some 82) (v := undef) (a' := ?_) (bl 20 65535) rfl rfl (any_of HT_.out (by kernel_rfl)) (fun _ _ _ h => h) (Or.inr ⟨by rfl, rfl⟩) ?_ ?_
                        rotate_left
                        ·simp only [Act.put, sA, sZ, sS, i64_w, i32_w]
                         rfl
                        refine pure_ (i := 16) (N := some 83) (v := undef) (a' := ?_) (bl 20 131071) rfl rfl (any_of HT_.out (by kernel_rfl)) (fun _ _ _ h => h) (Or.inr ⟨by rfl, rfl⟩) ?_ ?_
                        rotate_left
                        ·simp only [Act.put, sA, sZ, sS, i64_w, i32_w]
                         rfl
                        refine pure_ (i := 17) (N := some 84) (v := ?_) (a' := ?_) (bl 20 262143) rfl rfl (any_of HT_.out (by kernel_rfl)) (fun _ _ _ h => h) (Or.inl ⟨by rfl, ?_⟩) ?_ ?_
                        rotate_left
                        ·intro w'
                         go_simp
                         with_reducible rfl
                        rotate_left
                        ·simp only [Act.put, sA, sZ, sS, i64_w, i32_w]
                         rfl
                        refine pure_ (i := 18) (N := some 85) (v := ?_) (a' := ?_) (bl 20 524287) rfl rfl (any_of HT_.out (by kernel_rfl)) (fun _ _ _ h => h) (Or.inl ⟨by rfl, ?_⟩) ?_ ?_
                        rotate_left
                        ·intro w'
                         go_simp
                         with_reducible rfl
                        rotate_left
                        ·simp only [Act.put, sA, sZ, sS, i64_w, i32_w]
                         rfl
                        refine last_ (i := 19) (N := none) (bl 20 1048575) rfl rfl (one_of HT_.out (by kernel_rfl)) (by decide) (fun K hK => ?_)
                        refine skip_ (w1 := ?_) (by rfl) rfl ?_ ?_
                        rotate_left
                        ·go_simp
                         rfl
                        refine hK.out _ _ ?_
                        clear hK K
                        refine done_ (done_of HT_.out (by kernel_rfl)) ?_
                        try go_wp2
                        (try simp only [← hl5_5])
                        go_roundg k5
                        case measure => have := HK1.out; have := HK2.out; have := HK3.out; have := HK4.out; have := HK5.out; omega
                        case rel => exact ⟨(y118), (x9_5), (wrap64 (x11_5 + 1)), (by first | rfl | (simp; done) | (simp [*]; done)), H', ⟨by have := HK1.out; have := HK2.out; have := HK3.out; have := HK4.out; have := HK5.out; omega⟩, ⟨by (try simp only [hl5_4]); (try simp only [hl5_5]); (with_reducible repeat (first | apply Kd.S_alloc | apply Kd.S_drewN | apply Kd.S_drew)); exact HQ31.out⟩, ⟨by (try simp only [hl5_4]); (try simp only [hl5_5]); (with_reducible repeat (first | apply Ra | apply Rn | apply Rd)); exact Kd.R_mono (Kd.R_far (p := ⟨go29, (x11_5 : Int).toNat, none⟩) (Kd.R_far1 HO_9.out rfl ((HL113_0.out.1 _ rfl).1)) (fun _ hk => hk.2) _) (fun _ hk => trivial)⟩, ⟨by repeat (first | (with_reducible first | exact HB.out | apply lA | apply lN | apply lD | refine lS ?_ GB29.out) | exact HB.out)⟩⟩
                       ·replace c28 := Bool.eq_false_iff.mpr c28
                        subst c28
                        have H1 : (if x11_5 < (x9_5.length : Int) then (lambrequinref20_Ahead.l4 k5 l0 l1 (x5_5.set (x10_4 : Int).toNat ((rd_L6 x5_5 x10_4).set (x11_5 : Int).toNat (rdOf false x9_5 x11_5))) x7_2 x8_3 x9_5 x10_4 (wrap64 (x11_5 + 1))) else (none)) = some r := by rw [if_neg (show ¬ (false = true) by decide)] at H; exact H
                        clear H
                        have H := H1
                        clear H1
                        by_cases c33 : x11_5 < (x9_5.length : Int)
                        ·rw [if_pos c33] at H
                         have c33b0 : decide (x11_5 < (x9_5.length : Int)) = true := decide_eq_true c33
                         clear c33
                         obtain ⟨y120, hy120⟩ : ∃ y_ : List Bool, y_ = ((rd_L6 x5_5 x10_4).set (x11_5 : Int).toNat (rdOf false x9_5 x11_5)) := ⟨_, rfl⟩
                         replace H : (lambrequinref20_Ahead.l4 k5 l0 l1 (x5_5.set (x10_4 : Int).toNat y120) x7_2 x8_3 x9_5 x10_4 (wrap64 (x11_5 + 1))) = some r := by first | (rw [hy120]; with_reducible exact H) | (have H2_ := (Option.bind_some _ _).symm.trans H; rw [hy120]; with_reducible exact H2_) | (have H2_ := (Option.bind_some _ _).symm.trans H; with_reducible exact H2_) | with_reducible exact H | (rw [hy120]; exact H) | exact H
                         have Ny120 := am hy120
                         clear hy120
                         obtain ⟨y122, hy122⟩ : ∃ y_ : List (List Bool), y_ = (x5_5.set (x10_4 : Int).toNat y120) := ⟨_, rfl⟩
                         replace H : (lambrequinref20_Ahead.l4 k5 l0 l1 y122 x7_2 x8_3 x9_5 x10_4 (wrap64 (x11_5 + 1))) = some r := by first | (rw [hy122]; with_reducible exact H) | (have H2_ := (Option.bind_some _ _).symm.trans H; rw [hy122]; with_reducible exact H2_) | (have H2_ := (Option.bind_some _ _).symm.trans H; with_reducible exact H2_) | with_reducible exact H | (rw [hy122]; exact H) | exact H
                         have Ny122 := am hy122
                         clear hy122
                         have H' := am H
                         clear H
                         try go_wp2_with (first | (go_at_call 53; (with_reducible refine (lambrequinref20_Leads.calls k5 _ _ l0 x8_3 x10_4 true _ ?side1 ?side2 A21.out).mono ?_); (case side1 => repeat (first | exact (Kd.C_below HR0.out HB.out) | (with_reducible refine Kd.C_alloc ?_ _) | (with_reducible refine Kd.C_drewN ?_ _) | (with_reducible refine Kd.C_drew ?_))); (case side2 => exact HC0.out); rintro e w' ⟨rfl, ⟨nd, rfl⟩⟩; (try (rw [drewN_self wr]; generalize hq_ : World.drewN wr _ = wr; replace HO_5 : Aside0 (Kd.S (Kd.slice 4 Kd.bool) 41 wr w.heap.size (fun k_ => some k_ ≠ (v110 : Value).ownBlock) (.slice (some ad108) x5_5.length co17) x5_5) := ⟨by rw [← hq_]; exact (by (with_reducible repeat (first | apply Kd.S_alloc | apply Kd.S_drewN | apply Kd.S_drew)); exact HO_5.out)⟩; replace HO_9 : Aside0 (Kd.R Kd.bool 4 wr w.heap.size (fun _ => True) v110 x9_5) := ⟨by rw [← hq_]; exact (by (with_reducible repeat (first | apply Ra | apply Rn | apply Rd)); exact HO_9.out)⟩; replace HB : Aside0 (Below w.heap.size w wr) := ⟨by rw [← hq_]; exact (by repeat (first | (with_reducible first | exact HB.out | apply lA | apply lN | apply lD) | exact HB.out))⟩; clear hq_))))
                         replace HO_5 := am (Kd.S_drew HO_5.out)
                         replace HO_9 := am (Kd.R_drew HO_9.out)
                         replace HB := am (below_drew1 HB.out)
                         have p113 : 0 ≤ (x10_4 : Int) := of_decide_eq_true (by first | (with_reducible assumption) | assumption)
                         have q113 : x10_4 < (x5_5.length : Int) := of_decide_eq_true (by first | (with_reducible assumption) | assumption)
                         obtain ⟨ad113, A113_0, c113_0, e113, hx113_0, hl113_0, hi113_0⟩ := at_L6 (Kd.S_reads' HO_5.out).2.2 x10_4 p113 q113
                         obtain rfl : ad108 = ad113 := (by injection e113)
                         obtain ⟨ce113, hce113, hMe113, hcc113⟩ := Kd.S_get HO_5.out [] x10_4 p113 (by first | exact q113 | exact of_decide_eq_true (by first | (with_reducible assumption) | assumption) | (have e_ := (Kd.S_reads' HO_5.out).1; omega))
                         obtain ⟨ve113_0, rfl, ge113_0⟩ := hMe113
                         have hv113_0 := hcc113 0 _ rfl
                         rw [Nat.add_zero, show ((Kd.slice 4 Kd.bool)).sz = 1 from rfl, Nat.mul_one] at hv113_0
                         replace hv113_0 := Option.some.inj (hv113_0.symm.trans hx113_0)
                         rw [hv113_0] at ge113_0
                         have HL113_0 := am (show Kd.R Kd.bool 4 _ _ _ _ (rd_L6 x5_5 x10_4) from ge113_0)
                         clear hv113_0 ge113_0
                         have HX113_0 := am hx113_0
                         clear hcc113 hce113
                         have HR113_0 := am hi113_0
                         have HC113_0 := am hl113_0
                         clear hi113_0 hl113_0
                         replace p113 := eq_true p113
                         replace q113 := eq_true q113
                         have p114 : 0 ≤ (x10_4 : Int) := of_decide_eq_true (by first | (with_reducible assumption) | assumption)
                         have q114 : x10_4 < (x5_5.length : Int) := of_decide_eq_true (by first | (with_reducible assumption) | assumption)
                         obtain ⟨ad114, A114_0, c114_0, e114, hx114_0, hl114_0, hi114_0⟩ := at_L6 (Kd.S_reads' HO_5.out).2.2 x10_4 p114 q114
                         obtain rfl : ad108 = ad114 := (by injection e114)
                         obtain ⟨ce114, hce114, hMe114, hcc114⟩ := Kd.S_get HO_5.out [] x10_4 p114 (by first | exact q114 | exact of_decide_eq_true (by first | (with_reducible assumption) | assumption) | (have e_ := (Kd.S_reads' HO_5.out).1; omega))
                         obtain ⟨ve114_0, rfl, ge114_0⟩ := hMe114
                         have hv114_0 := hcc114 0 _ rfl
                         rw [Nat.add_zero, show ((Kd.slice 4 Kd.bool)).sz = 1 from rfl, Nat.mul_one] at hv114_0
                         replace hv114_0 := Option.some.inj (hv114_0.symm.trans hx114_0)
                         rw [hv114_0] at ge114_0
                         have HL114_0 := am (show Kd.R Kd.bool 4 _ _ _ _ (rd_L6 x5_5 x10_4) from ge114_0)
                         clear hv114_0 ge114_0
                         have HX114_0 := am hx114_0
                         clear hcc114 hce114
                         have HR114_0 := am hi114_0
                         have HC114_0 := am hl114_0
                         clear hi114_0 hl114_0
                         replace p114 := eq_true p114
                         replace q114 := eq_true q114
                         have ea_ := Option.some.inj (hx113_0.symm.trans hx114_0)
                         injection ea_ with ea_ en_ ec_
                         subst ea_
                         subst ec_
                         clear en_
                         have p115 : 0 ≤ (x11_5 : Int) := of_decide_eq_true (by first | (with_reducible assumption) | assumption)
                         have q115 : x11_5 < ((rd_L6 x5_5 x10_4).length : Int) := of_decide_eq_true (by first | (with_reducible assumption) | assumption)
                         obtain ⟨ad115, e115, hx115_0⟩ := Kd.at_bool (by repeat (first | (with_reducible exact HR114_0.out) | (with_reducible refine Kd.C_alloc ?_ _) | (with_reducible refine Kd.C_drewN ?_ _) | (with_reducible refine Kd.C_drew ?_) | exact HR114_0.out)) x11_5 p115 q115
                         (try rw [← Nbq27.out] at hx115_0)
                         cases e115
                         replace p115 := eq_true p115
                         replace q115 := eq_true q115
                         obtain ⟨Ao36, co36, eo36⟩ := Kd.R_slice HO_9.out
                         (first | subst eo36 | (injection eo36 with f1_ f2_ f3_; have f4_ := f1_.symm; have f5_ := f3_.symm; clear f1_ f2_ f3_; subst f4_; subst f5_))
                         have p119 : 0 ≤ (x11_5 : Int) := of_decide_eq_true (by first | (with_reducible assumption) | assumption)
                         have q119 : x11_5 < (x9_5.length : Int) := of_decide_eq_true (by first | (with_reducible assumption) | assumption)
                         obtain ⟨ad119, e119, hx119_0⟩ := Kd.at_bool (Kd.R_reads' HO_9.out).2.2 x11_5 p119 q119
                         (try rw [← Nbq27.out] at hx119_0)
                         cases e119
                         replace p119 := eq_true p119
                         replace q119 := eq_true q119
                         have p34 : 0 ≤ (x11_5 : Int) := of_decide_eq_true (by first | (with_reducible assumption) | assumption)
                         have q34 : (x11_5 : Int) < (((rd_L6 x5_5 x10_4).length : Int) : Int) := of_decide_eq_true (by first | (with_reducible assumption) | assumption)
                         obtain ⟨go34, co34, eo34, gb34, gl34, cl34, HG34⟩ := Kd.R_form HL113_0.out (by omega)
                         (first | cases eo34 | (injection eo34 with ea_ en_ ec_; (first | subst ea_ | (injection ea_ with ea_; subst ea_)); subst ec_; clear en_))
                         have GB34 := am gb34
                         have GG34 := am HG34
                         clear gb34 gl34 HG34
                         (first | simp only [add_plain] at hx115_0 | skip)
                         obtain ⟨hx34_0, hf34_0⟩ := Kd.R_celln false HL113_0.out (x11_5 : Int) p34 q34
                         replace p34 := eq_true p34
                         replace q34 := eq_true q34
                         have hq37 : (x10_4 : Int) < (x5_5.length : Int) := (by have h_ : (x10_4 : Int) < ((x5_5.length : Int) : Int) := of_decide_eq_true (by first | (with_reducible assumption) | assumption); first | exact h_ | (have e_ := (Kd.S_reads' HO_5.out).1; omega) | simpa only [List.length_set, List.length_set] using h_)
                         obtain ⟨oki37, ce37, hcl37, hM37, hcc37, hok37, hbk37⟩ := Kd.S_borrow HO_5.out [] (x10_4 : Int) (of_decide_eq_true (by first | (with_reducible assumption) | assumption)) hq37
                         obtain ⟨ve37_0, rfl, ge37_0⟩ := hM37
                         have hv37 := hcc37 0 _ rfl
                         rw [Nat.add_zero, show ((Kd.slice 4 Kd.bool)).sz = 1 from rfl, Nat.mul_one] at hv37
                         replace hv37 := Option.some.inj (hv37.symm.trans HX113_0.out)
                         subst hv37
                         clear hcc37 hcl37
                         replace ge37_0 := (show Kd.R Kd.bool 4 _ _ _ _ (rd_L6 x5_5 x10_4) from ge37_0)
                         have HP37 := Kd.R_putg ge37_0 (x11_5 : Int) (rdOf false x9_5 x11_5)
                         rw [← Ny120.out] at HP37
                         have HS37 := hbk37 HP37.2 (fun k_ e_ => by injection e_ with e_; subst e_; exact ge37_0.1 _ rfl) (x' := y120) (Kd.M_row HP37.1)
                         rw [← Ny122.out] at HS37
                         have HQ37 := am HS37
                         clear HP37 HS37 hbk37 hok37
                         refine start_ (n := 20) (S := fun w' => w'.cell? (ad108.add (x10_4).toNat) = some (.slice (some ⟨go34, 0, none⟩) (rd_L6 x5_5 x10_4).length c113_0) ∧ w'.cell? (ad108.add (x10_4).toNat) = some (.slice (some ⟨go34, 0, none⟩) (rd_L6 x5_5 x10_4).length c113_0) ∧ w'.cell? ⟨go34, (x11_5).toNat, none⟩ = some (.bool false) ∧ w'.cell? (ad119.add (x11_5).toNat) = some (.bool (rdOf false x9_5 x11_5))) (ds := [19]) (bl 20 0) (by kernel_rfl) rfl rfl ⟨hx113_0, hx114_0, hx115_0, hx119_0⟩ (fun hHeld => ?_); refine with_tabW lambrequinref20_Ahead.tab19 lambrequinref20_Ahead.bits19 (fun HT_ HW_ => ?_)
                         generalize wr.drew = w35 at HO_5 HO_9 HB GG34 HL113_0 HL114_0 HQ37 HR113_0 HR114_0 HX113_0 HX114_0 hf34_0 hx113_0 hx114_0 hx115_0 hx119_0 hx34_0 hHeld ⊢
                         refine pure_ (i := 0) (N := some 67) (v := ?_) (a' := ?_) (bl 20 1) rfl rfl (any_of HT_.out (by kernel_rfl)) (fun _ _ _ h => h) (Or.inl ⟨by rfl, ?_⟩) ?_ ?_
                         rotate_left
                         ·intro w'
                          go_simp
                          with_reducible rfl
                         rotate_left
                         ·simp only [Act.put, sA, sZ, sS, i64_w, i32_w]
                          rfl
                         refine pure_ (i := 1) (N := some 68) (v := ?_) (a' := ?_) (bl 20 3) rfl rfl (any_of HT_.out (by kernel_rfl)) (fun _ _ _ h => h) (Or.inl ⟨by rfl, ?_⟩) ?_ ?_
                         rotate_left
                         ·intro w'
                          go_simp
                          with_reducible rfl
                         rotate_left
                         ·simp only [Act.put, sA, sZ, sS, i64_w, i32_w]
                          rfl
                         refine pure_ (i := 2) (N := some 69) (v := ?_) (a' := ?_) (bl 20 7) rfl rfl (any_of HT_.out (by kernel_rfl)) (fun _ _ _ h => h) (Or.inl ⟨by rfl, ?_⟩) ?_ ?_
                         rotate_left
                         ·intro w'
                          go_simp
                          with_reducible rfl
                         rotate_left
                         ·simp only [Act.put, sA, sZ, sS, i64_w, i32_w]
                          rfl
                         refine pure_ (i := 4) (N := some 71) (v := ?_) (a' := ?_) (bl 20 23) rfl rfl (any_of HT_.out (by kernel_rfl)) (fun _ _ _ h => h) (Or.inl ⟨by rfl, ?_⟩) ?_ ?_
                         rotate_left
                         ·intro w'
                          go_simp
                          with_reducible rfl
                         rotate_left
                         ·simp only [Act.put, sA, sZ, sS, i64_w, i32_w]
                          rfl
                         refine pure_ (i := 5) (N := some 72) (v := ?_) (a' := ?_) (bl 20 55) rfl rfl (any_of HT_.out (by kernel_rfl)) (fun _ _ _ h => h) (Or.inl ⟨by rfl, ?_⟩) ?_ ?_
                         rotate_left
                         ·intro w'
                          go_simp
                          with_reducible rfl
                         rotate_left
                         ·simp only [Act.put, sA, sZ, sS, i64_w, i32_w]
                          rfl
                         refine pure_ (i := 6) (N := some 73) (v := ?_) (a' := ?_) (bl 20 119) rfl rfl (any_of HT_.out (by kernel_rfl)) (fun _ _ _ h => h) (Or.inl ⟨by rfl, ?_⟩) ?_ ?_
                         rotate_left
                         ·intro w'
                          go_simp
                          with_reducible rfl
                         rotate_left
                         ·simp only [Act.put, sA, sZ, sS, i64_w, i32_w]
                          rfl
                         refine pure_ (i := 7) (N := some 74) (v := ?_) (a' := ?_) (bl 20 247) rfl rfl (any_of HT_.out (by kernel_rfl)) (fun _ _ _ h => h) (Or.inl ⟨by rfl, ?_⟩) ?_ ?_
                         rotate_left
                         ·intro w'
                          go_simp
                          with_reducible rfl
                         rotate_left
                         ·simp only [Act.put, sA, sZ, sS, i64_w, i32_w]
                          rfl
                         refine pure_ (i := 9) (N := some 76) (v := ?_) (a' := ?_) (bl 20 759) rfl rfl (any_of HT_.out (by kernel_rfl)) (fun _ _ _ h => h) (Or.inl ⟨by rfl, ?_⟩) ?_ ?_
                         rotate_left
                         ·intro w'
                          go_simp
                          with_reducible rfl
                         rotate_left
                         ·simp only [Act.put, sA, sZ, sS, i64_w, i32_w]
                          rfl
                         refine take_ (i := 3) (N := some 70) (v := ?_) (a' := ?_) (bl 20 767) rfl rfl (take_ofW HT_.out HW_.out (by kernel_rfl)) (fun _ _ _ h => h) (Or.inl ⟨by rfl, ?_⟩) hHeld ?_ ?_
                         rotate_left
                         ·rintro w' ⟨s0, s1, s2, s3⟩
                          go_simp
                          with_reducible rfl
                         rotate_left
                         ·simp only [Act.put, sA, sZ, sS, i64_w, i32_w]
                          rfl
                         refine take_ (i := 8) (N := some 75) (v := ?_) (a' := ?_) (bl 20 1023) rfl rfl (take_ofW HT_.out HW_.out (by kernel_rfl)) (fun _ _ _ h => h) (Or.inl ⟨by rfl, ?_⟩) hHeld ?_ ?_
                         rotate_left
                         ·rintro w' ⟨s0, s1, s2, s3⟩
                          go_simp
                          with_reducible rfl
                         rotate_left
                         ·simp only [Act.put, sA, sZ, sS, i64_w, i32_w]
                          rfl
                         refine pure_ (i := 10) (N := some 77) (v := ?_) (a' := ?_) (bl 20 2047) rfl rfl (any_of HT_.out (by kernel_rfl)) (fun _ _ _ h => h) (Or.inl ⟨by rfl, ?_⟩) ?_ ?_
                         rotate_left
                         ·intro w'
                          go_simp
                          with_reducible rfl
                         rotate_left
                         ·simp only [Act.put, sA, sZ, sS, i64_w, i32_w]
                          rfl
                         refine take_ (i := 11) (N := some 78) (v := ?_) (a' := ?_) (bl 20 4095) rfl rfl (take_ofW HT_.out HW_.out (by kernel_rfl)) (fun _ _ _ h => h) (Or.inl ⟨by rfl, ?_⟩) hHeld ?_ ?_
                         rotate_left
                         ·rintro w' ⟨s0, s1, s2, s3⟩
                          go_simp
                          with_reducible rfl
                         rotate_left
                         ·simp only [Act.put, sA, sZ, sS, i64_w, i32_w]
                          rfl
                         refine pure_ (i := 12) (N := some 79) (v := ?_) (a' := ?_) (bl 20 8191) rfl rfl (any_of HT_.out (by kernel_rfl)) (fun _ _ _ h => h) (Or.inl ⟨by rfl, ?_⟩) ?_ ?_
                         rotate_left
                         ·intro w'
                          go_simp
                          with_reducible rfl
                         rotate_left
                         ·simp only [Act.put, sA, sZ, sS, i64_w, i32_w]
                          rfl
                         refine pure_ (i := 13) (N := some 80) (v := ?_) (a' := ?_) (bl 20 16383) rfl rfl (any_of HT_.out (by kernel_rfl)) (fun _ _ _ h => h) (Or.inl ⟨by rfl, ?_⟩) ?_ ?_
                         rotate_left
                         ·intro w'
                          go_simp
                          with_reducible rfl
                         rotate_left
                         ·simp only [Act.put, sA, sZ, sS, i64_w, i32_w]
                          rfl
                         refine pure_ (i := 14) (N := some 81) (v := ?_) (a' := ?_) (bl 20 32767) rfl rfl (any_of HT_.out (by kernel_rfl)) (fun _ _ _ h => h) (Or.inl ⟨by rfl, ?_⟩) ?_ ?_
                         rotate_left
                         ·intro w'
                          go_simp
                          with_reducible rfl
                         rotate_left
                         ·simp only [Act.put, sA, sZ, sS, i64_w, i32_w]
                          rfl
                         refine pure_ (i := 15) (N := some 82) (v := ?_) (a' := ?_) (bl 20 65535) rfl rfl (any_of HT_.out (by kernel_rfl)) (fun _ _ _ h => h) (Or.inl ⟨by rfl, ?_⟩) ?_ ?_
                         rotate_left
                         ·intro w'
                          go_simp
                          with_reducible rfl
                         rotate_left
                         ·simp only [Act.put, sA, sZ, sS, i64_w, i32_w]
                          rfl
                         refine take_ (i := 16) (N := some 83) (v := ?_) (a' := ?_) (bl 20 131071) rfl rfl (take_ofW HT_.out HW_.out (by kernel_rfl)) (fun _ _ _ h => h) (Or.inl ⟨by rfl, ?_⟩) hHeld ?_ ?_
                         rotate_left
                         ·rintro w' ⟨s0, s1, s2, s3⟩
                          go_simp
                          with_reducible rfl
                         rotate_left
                         ·simp only [Act.put, sA, sZ, sS, i64_w, i32_w]
                          rfl
                         refine pure_ (i := 17) (N := some 84) (v := ?_) (a' := ?_) (bl 20 262143) rfl rfl (any_of HT_.out (by kernel_rfl)) (fun _ _ _ h => h) (Or.inl ⟨by rfl, ?_⟩) ?_ ?_
                         rotate_left
                         ·intro w'
                          go_simp
                          with_reducible rfl
                         rotate_left
                         ·simp only [Act.put, sA, sZ, sS, i64_w, i32_w]
                          rfl
                         refine pure_ (i := 18) (N := some 85) (v := ?_) (a' := ?_) (bl 20 524287) rfl rfl (any_of HT_.out (by kernel_rfl)) (fun _ _ _ h => h) (Or.inl ⟨by rfl, ?_⟩) ?_ ?_
                         rotate_left
                         ·intro w'
                          go_simp
                          with_reducible rfl
                         rotate_left
                         ·simp only [Act.put, sA, sZ, sS, i64_w, i32_w]
                          rfl
                         refine last_ (i := 19) (N := none) (bl 20 1048575) rfl rfl (one_of HT_.out (by kernel_rfl)) (by decide) (fun K hK => ?_)
                         refine skip_ (w1 := ?_) (by rfl) rfl ?_ ?_
                         rotate_left
                         ·go_simp
                          rfl
                         refine hK.out _ _ ?_
                         clear hK K
                         refine done_ (done_of HT_.out (by kernel_rfl)) ?_
                         try go_wp2
                         (try simp only [← hl5_5])
                         go_roundg k5
                         case measure => have := HK1.out; have := HK2.out; have := HK3.out; have := HK4.out; have := HK5.out; omega
                         case rel => exact ⟨(y122), (x9_5), (wrap64 (x11_5 + 1)), (by first | rfl | (simp; done) | (simp [*]; done)), H', ⟨by have := HK1.out; have := HK2.out; have := HK3.out; have := HK4.out; have := HK5.out; omega⟩, ⟨by (try simp only [hl5_4]); (try simp only [hl5_5]); (with_reducible repeat (first | apply Kd.S_alloc | apply Kd.S_drewN | apply Kd.S_drew)); exact HQ37.out⟩, ⟨by (try simp only [hl5_4]); (try simp only [hl5_5]); (with_reducible repeat (first | apply Ra | apply Rn | apply Rd)); exact Kd.R_mono (Kd.R_far (p := ⟨go34, (x11_5 : Int).toNat, none⟩) (Kd.R_far1 HO_9.out rfl ((HL113_0.out.1 _ rfl).1)) (fun _ hk => hk.2) _) (fun _ hk => trivial)⟩, ⟨by repeat (first | (with_reducible first | exact HB.out | apply lA | apply lN | apply lD | refine lS ?_ GB34.out) | exact HB.out)⟩⟩
                        ·rw [if_neg c33] at H
                         exact absurd H (by simp)
                      ·rw [if_neg c26] at H
                       exact absurd H (by simp)
                     ·rw [if_neg c25] at H
                      exact absurd H (by simp)
                    ·rw [if_neg c24] at H
                     exact absurd H (by simp)
                   ·rw [if_neg c23] at H
                    exact absurd H (by simp)
                  ·replace c22 := Bool.eq_false_iff.mpr c22
                   subst c22
                   have H1 : (lambrequinref20_Ahead.l3 k5 l0 l1 x5_5 x7_2 x8_3 x9_5 (wrap64 (x10_4 + 1))) = some r := by rw [if_neg (show ¬ (false = true) by decide)] at H; exact H
                   clear H
                   have H := H1
                   clear H1
                   have H' := am H
                   clear H
                   go_wp2_with (first | (go_at_call 53; (with_reducible refine (lambrequinref20_Leads.calls k5 _ _ l0 x8_3 x10_4 false _ ?side1 ?side2 A21.out).mono ?_); (case side1 => repeat (first | exact (Kd.C_below HR0.out HB.out) | (with_reducible refine Kd.C_alloc ?_ _) | (with_reducible refine Kd.C_drewN ?_ _) | (with_reducible refine Kd.C_drew ?_))); (case side2 => exact HC0.out); rintro e w' ⟨rfl, ⟨nd, rfl⟩⟩))
                   (try simp only [← hl5_4, ← hl5_5])
                   go_roundg k5
                   case measure => have := HK1.out; have := HK2.out; have := HK3.out; have := HK4.out; have := HK5.out; omega
                   case rel => exact ⟨(x5_5), (x9_5), (wrap64 (x10_4 + 1)), (by first | rfl | (simp; done) | (simp [*]; done)), H', ⟨by have := HK1.out; have := HK2.out; have := HK3.out; have := HK4.out; have := HK5.out; omega⟩, ⟨by (try simp only [hl5_4]); (try simp only [hl5_5]); (with_reducible repeat (first | apply Kd.S_alloc | apply Kd.S_drewN | apply Kd.S_drew)); exact HO_5.out⟩, ⟨by (try simp only [hl5_4]); (try simp only [hl5_5]); (with_reducible repeat (first | apply Ra | apply Rn | apply Rd)); exact HO_9.out⟩, ⟨by repeat (first | (with_reducible first | exact HB.out | apply lA | apply lN | apply lD) | exact HB.out)⟩⟩
                 ·rw [if_neg c20] at H
                  have c20b0 : decide (x11_5 < (l1.length : Int)) = false := decide_eq_false c20
                  clear c20
                  have H' := am H
                  clear H
                  go_wp2
                  (try simp only [← hl5_4, ← hl5_5])
                  go_roundg k5
                  case measure => have := HK1.out; have := HK2.out; have := HK3.out; have := HK4.out; have := HK5.out; omega
                  case rel => exact ⟨(x5_5), (x9_5), (wrap64 (x10_4 + 1)), (by first | rfl | (simp; done) | (simp [*]; done)), H', ⟨by have := HK1.out; have := HK2.out; have := HK3.out; have := HK4.out; have := HK5.out; omega⟩, ⟨by (try simp only [hl5_4]); (try simp only [hl5_5]); (with_reducible repeat (first | apply Kd.S_alloc | apply Kd.S_drewN | apply Kd.S_drew)); exact HO_5.out⟩, ⟨by (try simp only [hl5_4]); (try simp only [hl5_5]); (with_reducible repeat (first | apply Ra | apply Rn | apply Rd)); exact HO_9.out⟩, ⟨by repeat (first | (with_reducible first | exact HB.out | apply lA | apply lN | apply lD) | exact HB.out)⟩⟩
              ·rw [if_neg c19] at H
               have c19b0 : decide (x10_4 < (l0.length : Int)) = false := decide_eq_false c19
               clear c19
               have H' := am H
               clear H
               go_wp2
               (try simp only [← hl5_4])
               go_roundg k4
               case measure => have := HK1.out; have := HK2.out; have := HK3.out; have := HK4.out; omega
               case rel => exact ⟨(x5_4), (wrap64 (x8_3 + 1)), (by first | rfl | (simp; done) | (simp [*]; done)), H', ⟨by have := HK1.out; have := HK2.out; have := HK3.out; have := HK4.out; omega⟩, ⟨by (try simp only [hl5_4]); (with_reducible repeat (first | apply Kd.S_alloc | apply Kd.S_drewN | apply Kd.S_drew)); exact Kd.S_mono HO_5.out (fun _ hk => trivial)⟩, ⟨by repeat (first | (with_reducible first | exact HB.out | apply lA | apply lN | apply lD) | exact HB.out)⟩⟩
           ·rw [if_neg c14] at H
            exact absurd H (by simp)
          ·rw [if_neg c13] at H
           exact absurd H (by simp)
         ·rw [if_neg c12] at H
          have c12b0 : decide (x8_3 < (l0.length : Int)) = false := decide_eq_false c12
          clear c12
          have H' := am H
          clear H
          go_wp2
          go_roundg k3
          case measure => have := HK1.out; have := HK2.out; have := HK3.out; omega
          case rel => exact ⟨(x5_3), (wrap64 (x7_2 + 1)), (by first | rfl | (simp; done) | (simp [*]; done)), H', ⟨by have := HK1.out; have := HK2.out; have := HK3.out; omega⟩, ⟨by (with_reducible repeat (first | apply Kd.S_alloc | apply Kd.S_drewN | apply Kd.S_drew)); exact HO_5.out⟩, ⟨by repeat (first | (with_reducible first | exact HB.out | apply lA | apply lN | apply lD) | exact HB.out)⟩⟩
      ·rw [if_neg c11] at H
       have c11b0 : decide (x7_2 ≤ (wrap64 ((l0.length : Int) * (l1.length : Int)))) = false := decide_eq_false c11
       clear c11
       obtain rfl := Option.some.inj H
       go_wp2
       go_ret
       exact ⟨_, by first | rfl | (simp [errW_none, errW_some] <;> rfl) | (simp [*, errW_none, errW_some] <;> rfl), by (with_reducible repeat (first | apply Kd.S_alloc | apply Kd.S_drewN | apply Kd.S_drew)); exact HO_5.out, by repeat (first | (with_reducible first | exact HB.out | apply lA | apply lN | apply lD) | exact HB.out)⟩
mutual
def lambrequinref20_Taints.j0 : Nat → List (Stmt) → Int → ByteArray → List ByteArray → Bool → Option (Bool)
 | 0, _, _, _, _, _ => none
 | k + 1, x0, x1, x2, x7, x19 => if x19 = true then (some false) else ((lambrequinref20_Ahead.f k x0 x7).bind fun t104 => (lambrequinref20_Taints.l0 k x1 x2 x7 t104 0))
def lambrequinref20_Taints.l0 : Nat → Int → ByteArray → List ByteArray → List (List Bool) → Int → Option (Bool)
 | 0, _, _, _, _, _ => none
 | k + 1, x1, x2, x7, x8, x9 => if x9 < (x7.length : Int) then (if 0 ≤ x9 then (if (rdOf ByteArray.empty x7 x9).toList = x2.toList then (if 0 ≤ x1 then (if x1 < (x8.length : Int) then (if x9 < ((rd_L6 x8 x1).length : Int) then (some (rdOf false (rd_L6 x8 x1) x9)) else (none)) else (none)) else (none)) else (lambrequinref20_Taints.l0 k x1 x2 x7 x8 (wrap64 (x9 + 1)))) else (none)) else (some false)
end
def lambrequinref20_Taints.f (k : Nat) (l0 : List (Stmt)) (a1 : Int) (a2 : ByteArray) : Option (Bool) := (lambrequinref20_Names.f k l0).bind fun t101 => (if a1 < 0 then (lambrequinref20_Taints.j0 k l0 a1 a2 t101 true) else (lambrequinref20_Taints.j0 k l0 a1 a2 t101 (decide (a1 ≥ (l0.length : Int)))))
theorem lambrequinref20_Taints.mono_l : ∀ k, (∀ y0 y1 y2 y3 y4, LeO (lambrequinref20_Taints.j0 k y0 y1 y2 y3 y4) (lambrequinref20_Taints.j0 (k + 1) y0 y1 y2 y3 y4)) ∧ (∀ y0 y1 y2 y3 y4, LeO (lambrequinref20_Taints.l0 k y0 y1 y2 y3 y4) (lambrequinref20_Taints.l0 (k + 1) y0 y1 y2 y3 y4))
 | 0 => ⟨fun _ _ _ _ _ r h => by simp [lambrequinref20_Taints.j0] at h, fun _ _ _ _ _ r h => by simp [lambrequinref20_Taints.l0] at h⟩
 | k + 1 => by
  obtain ⟨ih0, ih1⟩ := lambrequinref20_Taints.mono_l k
  refine ⟨?_, ?_⟩
  ·intro y0 y1 y2 y3 y4
   unfold lambrequinref20_Taints.j0
   repeat' first
   | (with_reducible exact ih0 _ _ _ _ _)
   | (with_reducible exact ih1 _ _ _ _ _)
   | (with_reducible exact lambrequinref20_Ahead.mono _ _ _)
   | (with_reducible exact lambrequinref20_Names.mono _ _)
   | (with_reducible exact LeO.refl _)
   | (with_reducible exact LeO.none _)
   | (with_reducible refine LeO.ite ?_ ?_)
   | (with_reducible refine LeO.bind ?_ (fun _ => ?_))
   | exact ih0 _ _ _ _ _
   | exact ih1 _ _ _ _ _
   | exact lambrequinref20_Ahead.mono _ _ _
   | exact lambrequinref20_Names.mono _ _
   | exact LeO.none _
   | refine LeO.ite ?_ ?_
   | refine LeO.bind ?_ (fun _ => ?_)
  ·intro y0 y1 y2 y3 y4
   unfold lambrequinref20_Taints.l0
   repeat' first
   | (with_reducible exact ih0 _ _ _ _ _)
   | (with_reducible exact ih1 _ _ _ _ _)
   | (with_reducible exact lambrequinref20_Ahead.mono _ _ _)
   | (with_reducible exact lambrequinref20_Names.mono _ _)
   | (with_reducible exact LeO.refl _)
   | (with_reducible exact LeO.none _)
   | (with_reducible refine LeO.ite ?_ ?_)
   | (with_reducible refine LeO.bind ?_ (fun _ => ?_))
   | exact ih0 _ _ _ _ _
   | exact ih1 _ _ _ _ _
   | exact lambrequinref20_Ahead.mono _ _ _
   | exact lambrequinref20_Names.mono _ _
   | exact LeO.none _
   | refine LeO.ite ?_ ?_
   | refine LeO.bind ?_ (fun _ => ?_)
theorem lambrequinref20_Taints.mono : ∀ a0 a1 a2 k, LeO (lambrequinref20_Taints.f k a0 a1 a2) (lambrequinref20_Taints.f (k + 1) a0 a1 a2) := by
 intro a0 a1 a2 k
 obtain ⟨ih0, ih1⟩ := lambrequinref20_Taints.mono_l k
 unfold lambrequinref20_Taints.f
 repeat' first
   | (with_reducible exact ih0 _ _ _ _ _)
   | (with_reducible exact ih1 _ _ _ _ _)
   | (with_reducible exact lambrequinref20_Ahead.mono _ _ _)
   | (with_reducible exact lambrequinref20_Names.mono _ _)
   | (with_reducible exact LeO.refl _)
   | (with_reducible exact LeO.none _)
   | (with_reducible refine LeO.ite ?_ ?_)
   | (with_reducible refine LeO.bind ?_ (fun _ => ?_))
   | exact ih0 _ _ _ _ _
   | exact ih1 _ _ _ _ _
   | exact lambrequinref20_Ahead.mono _ _ _
   | exact lambrequinref20_Names.mono _ _
   | exact LeO.none _
   | refine LeO.ite ?_ ?_
   | refine LeO.bind ?_ (fun _ => ?_)
set_option maxHeartbeats 8000000 in
set_option maxRecDepth 100000 in
theorem lambrequinref20_Taints.calls (k : Nat) (A0 : Option Addr) (c0 : Nat) (l0 : List (Stmt)) (a1 : Int) (a2 : ByteArray) (r : Bool) (w : World) (hr0 : Kd.C k30 w A0 l0.length l0) (hc0 : l0.length ≤ c0) (h : lambrequinref20_Taints.f k l0 a1 a2 = some r) :
  Calls Try.prog 41 #[.slice A0 l0.length c0, .int .i64 a1, .string a2] w fun e w' => e = .returned (.bool r) ∧ Below w.heap.size w w' := by
 have HR0 := Aside0.mk hr0
 have HC0 := Aside0.mk hc0
 clear hr0 hc0
 have HB := Aside0.mk (Below.refl w.heap.size w)
 have H : ((lambrequinref20_Names.f k l0).bind fun t101 => (if a1 < 0 then (lambrequinref20_Taints.j0 k l0 a1 a2 t101 true) else (lambrequinref20_Taints.j0 k l0 a1 a2 t101 (decide (a1 ≥ (l0.length : Int)))))) = some r := h
 clear h
 replace H := Option.bind_eq_some_iff.mp H
 obtain ⟨t101, A40, H⟩ := H
 replace H : (if a1 < 0 then (lambrequinref20_Taints.j0 k l0 a1 a2 t101 true) else (lambrequinref20_Taints.j0 k l0 a1 a2 t101 (decide (a1 ≥ (l0.length : Int))))) = some r := H
 have A4 := Aside0.mk A40
 clear A40
 have HC5 := Aside0.mk H
 clear H
 go_enter Try.func41, Try.ntmps41
 go_upto_region 2 with (first | ((with_reducible refine gate_callee (f := 32) rfl ?_); refine goesL_ (some 11) rfl rfl Try.func32 (by kernel_rfl) rfl #[.slice A0 l0.length c0] rfl (by (try simp only [List.map_toArray, List.map_cons, List.map_nil]); first | done | rfl | (simp only [List.length_drop, List.length_take]; rfl)) ?_; (with_reducible refine (lambrequinref20_Names.calls k _ _ l0 t101 _ ?side1 ?side2 A4.out).mono ?_); (case side1 => repeat (first | exact HR0.out | (with_reducible refine Kd.C_alloc ?_ _) | (with_reducible refine Kd.C_drewN ?_ _) | (with_reducible refine Kd.C_drew ?_))); (case side2 => exact HC0.out); rintro e w6 ⟨v102, rfl, ho0, hb⟩; refine ⟨_, rfl, ?_⟩; have n0_ := Aside0.mk (Kd.R_lower ho0 (below_size (by repeat (first | (with_reducible first | exact HB.out | apply below_alloc | apply pw_below_drewN | apply below_drew1) | exact HB.out)))); have n1_ := Aside0.mk (below_step (by repeat (first | (with_reducible first | exact HB.out | apply below_alloc | apply pw_below_drewN | apply below_drew1) | exact HB.out)) hb); clear HB; have HO103 := n0_; have HB := n1_; clear n0_ n1_; (try clear hb); (try clear hb2); (try clear hk); (try clear hi); (try clear ho0)))
 (try simp only [Act.put, List.setIfInBounds_toArray, List.set_cons_zero, List.set_cons_succ])
 go_cut [19] (fun v19 wc => ∃ (kq : Nat) (x19_4 : Bool), v19 = .bool x19_4 ∧ Aside0 (lambrequinref20_Taints.j0 kq l0 a1 a2 t101 x19_4 = some r) ∧ Aside0 (kq ≤ k) ∧ Aside0 (Kd.R Kd.string 9 wc w.heap.size (fun _ => True) v102 t101) ∧ Aside0 (Below w.heap.size w wc))
 case first =>
  have H := HC5.out
  clear HC5
  by_cases c7 : a1 < 0
  ·rw [if_pos c7] at H
   have c7b0 : decide (a1 < 0) = true := decide_eq_true c7
   clear c7
   (first | rw [c7b0] | (simp only [i64_w, i32_w]; rw [c7b0]) | skip)
   have H' := Aside0.mk H
   clear H
   go_wp2
   go_meet
   case rel => exact ⟨_, (true), (by first | rfl | (simp; done) | (simp [*]; done)), H', ⟨by first | omega | exact Nat.le_refl _⟩, ⟨by (with_reducible repeat (first | apply Kd.R_alloc | apply Kd.R_drewN | apply Kd.R_drew)); exact HO103.out⟩, ⟨by repeat (first | (with_reducible first | exact HB.out | apply below_alloc | apply pw_below_drewN | apply below_drew1) | exact HB.out)⟩⟩
  ·rw [if_neg c7] at H
   have c7b0 : decide (a1 < 0) = false := decide_eq_false c7
   clear c7
   (first | rw [c7b0] | (simp only [i64_w, i32_w]; rw [c7b0]) | skip)
   have H' := Aside0.mk H
   clear H
   go_wp2
   go_meet
   case rel => exact ⟨_, (decide (a1 ≥ (l0.length : Int))), (by first | rfl | (simp; done) | (simp [*]; done)), H', ⟨by first | omega | exact Nat.le_refl _⟩, ⟨by (with_reducible repeat (first | apply Kd.R_alloc | apply Kd.R_drewN | apply Kd.R_drew)); exact HO103.out⟩, ⟨by repeat (first | (with_reducible first | exact HB.out | apply below_alloc | apply pw_below_drewN | apply below_drew1) | exact HB.out)⟩⟩
 case rest =>
  clear HC5
  try clear p2
  try clear c3
  try clear c4
  try clear c7
  try clear c7b0
  obtain ⟨kq, x19_4, rfl, HA, HJ4, HO_7, HB⟩ := hcut
  cases kq with
  | zero => exact absurd HA.out (by simp [lambrequinref20_Taints.j0])
  | succ kj4 =>
   have H := HA.out
   clear HA
   simp only [lambrequinref20_Taints.j0] at H
   by_cases c8 : x19_4 = true
   ·subst c8
    have H1 : (some false) = some r := by rw [if_pos rfl] at H; exact H
    clear H
    have H := H1
    clear H1
    obtain rfl := Option.some.inj H
    go_wp2
    go_ret
    exact ⟨by first | rfl | (simp [errW_none, errW_some] <;> rfl) | (simp [*, errW_none, errW_some] <;> rfl), by repeat (first | (with_reducible first | exact HB.out | apply below_alloc | apply pw_below_drewN | apply below_drew1) | exact HB.out)⟩
   ·replace c8 := Bool.eq_false_iff.mpr c8
    subst c8
    have H1 : ((lambrequinref20_Ahead.f kj4 l0 t101).bind fun t104 => (lambrequinref20_Taints.l0 kj4 a1 a2 t101 t104 0)) = some r := by rw [if_neg (show ¬ (false = true) by decide)] at H; exact H
    clear H
    have H := H1
    clear H1
    replace H := Option.bind_eq_some_iff.mp H
    obtain ⟨t104, A90, H⟩ := H
    replace H : (lambrequinref20_Taints.l0 kj4 a1 a2 t101 t104 0) = some r := H
    have A9 := Aside0.mk A90
    clear A90
    have H' := Aside0.mk H
    clear H
    obtain ⟨Ao10, co10, eo10⟩ := Kd.R_slice HO_7.out
    subst eo10
    go_wp2_with (first | ((with_reducible refine gate_callee (f := 62) rfl ?_); refine goesL_ (some 22) rfl rfl Try.func62 (by kernel_rfl) rfl #[.slice A0 l0.length c0, .slice Ao10 t101.length co10] rfl (by (try simp only [List.map_toArray, List.map_cons, List.map_nil]); first | done | rfl | (simp only [List.length_drop, List.length_take]; rfl)) ?_; (with_reducible refine (lambrequinref20_Ahead.calls kj4 _ _ l0 _ _ t101 t104 _ ?side1 ?side2 ?side3 ?side4 A9.out).mono ?_); (case side1 => repeat (first | exact (Kd.C_below HR0.out HB.out) | (with_reducible refine Kd.C_alloc ?_ _) | (with_reducible refine Kd.C_drewN ?_ _) | (with_reducible refine Kd.C_drew ?_))); (case side2 => exact HC0.out); (case side3 => repeat (first | exact (Kd.R_reads' HO_7.out).2.2 | (with_reducible refine Kd.C_alloc ?_ _) | (with_reducible refine Kd.C_drewN ?_ _) | (with_reducible refine Kd.C_drew ?_))); (case side4 => exact (Kd.R_reads' HO_7.out).2.1); rintro e w11 ⟨v105, rfl, ho0, hb⟩; refine ⟨_, rfl, ?_⟩; have n0_ := Aside0.mk (Kd.R_below (by (with_reducible repeat (first | apply Kd.R_alloc | apply Kd.R_drewN | apply Kd.R_drew)); exact HO_7.out) hb); have n1_ := Aside0.mk (Kd.S_lower ho0 (below_size (by repeat (first | (with_reducible first | exact HB.out | apply below_alloc | apply pw_below_drewN | apply below_drew1) | exact HB.out)))); have n2_ := Aside0.mk (below_step (by repeat (first | (with_reducible first | exact HB.out | apply below_alloc | apply pw_below_drewN | apply below_drew1) | exact HB.out)) hb); clear HO_7; clear HB; have HO_7 := n0_; have HO106 := n1_; have HB := n2_; clear n0_ n1_ n2_; (try clear hb); (try clear hb2); (try clear hk); (try clear hi); (try clear ho0)))
    go_loopg [9] kj4 (fun kq v9 w' => ∃ (x9_2 : Int), v9 = .int .i64 x9_2 ∧ Aside0 (lambrequinref20_Taints.l0 kq a1 a2 t101 t104 x9_2 = some r) ∧ Aside0 (kq ≤ kj4) ∧ Aside0 (Kd.R Kd.string 9 w' w.heap.size (fun _ => True) (.slice Ao10 t101.length co10) t101) ∧ Aside0 (Kd.S (Kd.slice 4 Kd.bool) 41 w' w.heap.size (fun _ => True) v105 t104) ∧ Aside0 (Below w.heap.size w w'))
    case atStart => exact ⟨(0), (by first | rfl | (simp; done) | (simp [*]; done)), H', ⟨Nat.le_refl _⟩, ⟨by (with_reducible repeat (first | apply Kd.R_alloc | apply Kd.R_drewN | apply Kd.R_drew)); exact HO_7.out⟩, ⟨by (with_reducible repeat (first | apply Kd.S_alloc | apply Kd.S_drewN | apply Kd.S_drew)); exact HO106.out⟩, ⟨by repeat (first | (with_reducible first | exact HB.out | apply below_alloc | apply pw_below_drewN | apply below_drew1) | exact HB.out)⟩⟩
    case round =>
     clear H'
     try clear p2
     try clear c3
     try clear c4
     try clear c6
     try clear c7
     try clear c7b0
     try clear c8
     try clear p2
     obtain ⟨x9_2, rfl, HA, HK2, HO_7, HO_8, HB⟩ := hrel
     cases gk with
     | zero => exact absurd HA.out (by simp [lambrequinref20_Taints.l0])
     | succ k2 =>
      have H := HA.out
      clear HA
      simp only [lambrequinref20_Taints.l0] at H
      by_cases c12 : x9_2 < (t101.length : Int)
      ·rw [if_pos c12] at H
       have c12b0 : decide (x9_2 < (t101.length : Int)) = true := decide_eq_true c12
       clear c12
       by_cases c13 : 0 ≤ x9_2
       ·rw [if_pos c13] at H
        have c13b0 : decide (0 ≤ x9_2) = true := decide_eq_true c13
        clear c13
        by_cases c14 : (rdOf ByteArray.empty t101 x9_2).toList = a2.toList
        ·rw [if_pos c14] at H
         have c14b0 : ((rdOf ByteArray.empty t101 x9_2).toList == a2.toList) = true := beq_iff_eq.mpr c14
         have c14b1 : ((rdOf ByteArray.empty t101 x9_2).toList != a2.toList) = false := bne_eq_false_iff_eq.mpr c14
         clear c14
         by_cases c15 : 0 ≤ a1
         ·rw [if_pos c15] at H
          have c15b0 : decide (0 ≤ a1) = true := decide_eq_true c15
          clear c15
          by_cases c16 : a1 < (t104.length : Int)
          ·rw [if_pos c16] at H
           have c16b0 : decide (a1 < (t104.length : Int)) = true := decide_eq_true c16
           clear c16
           by_cases c17 : x9_2 < ((rd_L6 t104 a1).length : Int)
           ·rw [if_pos c17] at H
            have c17b0 : decide (x9_2 < ((rd_L6 t104 a1).length : Int)) = true := decide_eq_true c17
            clear c17
            obtain rfl := Option.some.inj H
            have p107 : 0 ≤ (x9_2 : Int) := of_decide_eq_true (by first | (with_reducible assumption) | assumption)
            have q107 : x9_2 < (t101.length : Int) := of_decide_eq_true (by first | (with_reducible assumption) | assumption)
            obtain ⟨ad107, e107, hx107_0⟩ := Kd.at_string (Kd.R_reads' HO_7.out).2.2 x9_2 p107 q107
            cases e107
            replace p107 := eq_true p107
            replace q107 := eq_true q107
            obtain ⟨Ao18, co18, eo18⟩ := Kd.S_slice HO_8.out
            subst eo18
            have p108 : 0 ≤ (a1 : Int) := of_decide_eq_true (by first | (with_reducible assumption) | assumption)
            have q108 : a1 < (t104.length : Int) := of_decide_eq_true (by first | (with_reducible assumption) | assumption)
            obtain ⟨ad108, A108_0, c108_0, e108, hx108_0, hl108_0, hi108_0⟩ := at_L6 (Kd.S_reads' HO_8.out).2.2 a1 p108 q108
            cases e108
            obtain ⟨ce108, hce108, hMe108, hcc108⟩ := Kd.S_get HO_8.out [] a1 p108 (by first | exact q108 | exact of_decide_eq_true (by first | (with_reducible assumption) | assumption) | (have e_ := (Kd.S_reads' HO_8.out).1; omega))
            obtain ⟨ve108_0, rfl, ge108_0⟩ := hMe108
            have hv108_0 := hcc108 0 _ rfl
            rw [Nat.add_zero, show ((Kd.slice 4 Kd.bool)).sz = 1 from rfl, Nat.mul_one] at hv108_0
            replace hv108_0 := Option.some.inj (hv108_0.symm.trans hx108_0)
            rw [hv108_0] at ge108_0
            have HL108_0 := Aside0.mk (show Kd.R Kd.bool 4 _ _ _ _ (rd_L6 t104 a1) from ge108_0)
            clear hv108_0 ge108_0
            clear hcc108 hce108
            have HR108_0 := Aside0.mk hi108_0
            have HC108_0 := Aside0.mk hl108_0
            clear hi108_0 hl108_0
            replace p108 := eq_true p108
            replace q108 := eq_true q108
            have p109 : 0 ≤ (x9_2 : Int) := of_decide_eq_true (by first | (with_reducible assumption) | assumption)
            have q109 : x9_2 < ((rd_L6 t104 a1).length : Int) := of_decide_eq_true (by first | (with_reducible assumption) | assumption)
            obtain ⟨ad109, e109, hx109_0⟩ := Kd.at_bool (by repeat (first | (with_reducible exact HR108_0.out) | (with_reducible refine Kd.C_alloc ?_ _) | (with_reducible refine Kd.C_drewN ?_ _) | (with_reducible refine Kd.C_drew ?_) | exact HR108_0.out)) x9_2 p109 q109
            cases e109
            replace p109 := eq_true p109
            replace q109 := eq_true q109
            go_wp2
            go_ret
            exact ⟨by first | rfl | (simp [errW_none, errW_some] <;> rfl) | (simp [*, errW_none, errW_some] <;> rfl), by repeat (first | (with_reducible first | exact HB.out | apply below_alloc | apply pw_below_drewN | apply below_drew1) | exact HB.out)⟩
           ·rw [if_neg c17] at H
            exact absurd H (by simp)
          ·rw [if_neg c16] at H
           exact absurd H (by simp)
         ·rw [if_neg c15] at H
          exact absurd H (by simp)
        ·rw [if_neg c14] at H
         have c14b0 : ((rdOf ByteArray.empty t101 x9_2).toList == a2.toList) = false := beq_eq_false_iff_ne.mpr c14
         have c14b1 : ((rdOf ByteArray.empty t101 x9_2).toList != a2.toList) = true := bne_iff_ne.mpr c14
         have H' := Aside0.mk H
         clear H
         have p107 : 0 ≤ (x9_2 : Int) := of_decide_eq_true (by first | (with_reducible assumption) | assumption)
         have q107 : x9_2 < (t101.length : Int) := of_decide_eq_true (by first | (with_reducible assumption) | assumption)
         obtain ⟨ad107, e107, hx107_0⟩ := Kd.at_string (Kd.R_reads' HO_7.out).2.2 x9_2 p107 q107
         cases e107
         replace p107 := eq_true p107
         replace q107 := eq_true q107
         go_wp2
         go_roundg k2
         case measure => have := HJ4.out; have := HK2.out; omega
         case rel => exact ⟨(wrap64 (x9_2 + 1)), (by first | rfl | (simp; done) | (simp [*]; done)), H', ⟨by have := HJ4.out; have := HK2.out; omega⟩, ⟨by (with_reducible repeat (first | apply Kd.R_alloc | apply Kd.R_drewN | apply Kd.R_drew)); exact HO_7.out⟩, ⟨by (with_reducible repeat (first | apply Kd.S_alloc | apply Kd.S_drewN | apply Kd.S_drew)); exact HO_8.out⟩, ⟨by repeat (first | (with_reducible first | exact HB.out | apply below_alloc | apply pw_below_drewN | apply below_drew1) | exact HB.out)⟩⟩
       ·rw [if_neg c13] at H
        exact absurd H (by simp)
      ·rw [if_neg c12] at H
       have c12b0 : decide (x9_2 < (t101.length : Int)) = false := decide_eq_false c12
       clear c12
       obtain rfl := Option.some.inj H
       go_wp2
       go_ret
       exact ⟨by first | rfl | (simp [errW_none, errW_some] <;> rfl) | (simp [*, errW_none, errW_some] <;> rfl), by repeat (first | (with_reducible first | exact HB.out | apply below_alloc | apply pw_below_drewN | apply below_drew1) | exact HB.out)⟩
end Go.Proofs.Ytnepgcbgkhikkaa.H
/- the document's answer for layer 20 on what is tainted -/
namespace Go.Proofs.Ytnepgcbgkhikkaa.H
open Go.RowKit Go.Proofs.YtnepgcbgkhikkaaW.PrintWords
def leM (a b : List (List Bool)) : Prop := a.length = b.length ∧ ∀ (m : Nat) x y, a[m]? = some x → b[m]? = some y → leL x y
theorem leM.refl (a : List (List Bool)) : leM a a := ⟨rfl, fun m x y h h' => by rw [h] at h'; cases h'; exact leL.refl _⟩
theorem leM.trans {a b c : List (List Bool)} (h : leM a b) (k : leM b c) : leM a c := by
  refine ⟨h.1.trans k.1, fun m x z hx hz => ?_⟩
  have hm : m < b.length := by have := (List.getElem?_eq_some_iff.1 hx).1; have := h.1; omega
  exact (h.2 m x _ hx (List.getElem?_eq_getElem hm)).trans (k.2 m _ z (List.getElem?_eq_getElem hm) hz)
def cnt (a : List (List Bool)) : Nat := (a.map fun r => r.count true).sum
theorem leM.count : ∀ {a b : List (List Bool)}, leM a b → b = a ∨ cnt a < cnt b
  | [], [], h => .inl rfl
  | [], _ :: _, h => by have := h.1; simp at this
  | _ :: _, [], h => by have := h.1; simp at this
  | x :: a, y :: b, h => by
    have ht : leM a b := ⟨by have := h.1; simpa using this, fun m u v hu hv => h.2 (m + 1) u v (by simpa using hu) (by simpa using hv)⟩
    have h0 : leL x y := h.2 0 x y (by simp) (by simp)
    rcases leM.count ht with e | e
    · subst e
      rcases leL.count h0 with e | e
      · exact .inl (by rw [e])
      · right; simp [cnt]; omega
    · right
      have : x.count true ≤ y.count true := by
        rcases leL.count h0 with e | e
        · rw [e]; exact Nat.le_refl _
        · omega
      simp [cnt] at e ⊢
      omega
theorem cnt_le {N M : Nat} : ∀ {a : List (List Bool)}, a.length = N → (∀ r ∈ a, r.length = M) → cnt a ≤ N * M := by
  intro a
  induction a generalizing N with
  | nil => intro h _; simp [cnt]
  | cons x a ih =>
    intro h hr
    obtain ⟨n, rfl⟩ : ∃ n, N = n + 1 := ⟨a.length, by simp at h; omega⟩
    have := ih (N := n) (by simpa using h) (fun r hr' => hr r (by simp [hr']))
    have h1 : x.count true ≤ M := by rw [← hr x (by simp)]; exact List.count_le_length
    simp [cnt] at this ⊢
    rw [Nat.succ_mul]
    omega
theorem leM.setRow {t : List (List Bool)} {m : Nat} {r r' : List Bool} (hr : t[m]? = some r) (h : leL r r') : leM t (t.set m r') := by
  refine ⟨by simp, fun j x y hx hy => ?_⟩
  rw [List.getElem?_set] at hy
  split at hy
  · rename_i e
    subst e
    rw [hr] at hx
    cases hx
    split at hy
    · cases hy; exact h
    · cases hy
  · rw [hx] at hy; cases hy; exact leL.refl _
/-- the cell of a table -/
def cel (t : List (List Bool)) (m i : Nat) : Bool := (t.getD m []).getD i false
theorem cel_up {a b : List (List Bool)} (h : leM a b) {m i : Nat} (hc : cel a m i = true) : cel b m i = true := by
  unfold cel at hc ⊢
  rw [getD_true] at hc ⊢
  by_cases hm : m < a.length
  · have hm2 : m < b.length := by have := h.1; omega
    have h1 : a.getD m [] = a[m] := by rw [List.getD_eq_getElem?_getD, List.getElem?_eq_getElem hm]; rfl
    have h2 : b.getD m [] = b[m] := by rw [List.getD_eq_getElem?_getD, List.getElem?_eq_getElem hm2]; rfl
    rw [h1] at hc
    rw [h2]
    exact (h.2 m _ _ (List.getElem?_eq_getElem hm) (List.getElem?_eq_getElem hm2)).2 i hc
  · rw [List.getD_eq_getElem?_getD, List.getElem?_eq_none (l := a) (by omega)] at hc
    simp at hc
section
variable (names : List ByteArray) (st : Stmt) (inn : List Bool)
def usedB (k : Nat) : Bool := inn.getD k false && mem (names.getD k ByteArray.empty) (usesS st)
def bF (i : Nat) : Bool := if defB st (names.getD i ByteArray.empty) = true then (decide (st.kind = 4) || (decide (opK st) && (List.range names.length).any (usedB names st inn))) else inn.getD i false
def bhd : List Bool := (List.range names.length).map (bF names st inn)
theorem bhd_len : (bhd names st inn).length = names.length := by simp [bhd]
theorem bhd_at {i : Nat} (hi : i < names.length) : (bhd names st inn)[i]? = some (bF names st inn i) := by simp [bhd, hi]
theorem bF_up {inn' : List Bool} (h : leL inn inn') {i : Nat} (hb : bF names st inn i = true) : bF names st inn' i = true := by
  have up : ∀ k, inn.getD k false = true → inn'.getD k false = true := fun k hk => getD_true.2 (h.2 k (getD_true.1 hk))
  unfold bF at hb ⊢
  split at hb
  · rename_i hd
    rw [if_pos hd]
    rcases Bool.or_eq_true_iff.1 hb with q | q
    · rw [q]; rfl
    · obtain ⟨q1, q2⟩ := Bool.and_eq_true_iff.1 q
      obtain ⟨k, hk, q3⟩ := List.any_eq_true.1 q2
      obtain ⟨q4, q5⟩ := Bool.and_eq_true_iff.1 q3
      refine Bool.or_eq_true_iff.2 (.inr (Bool.and_eq_true_iff.2 ⟨q1, List.any_eq_true.2 ⟨k, hk, Bool.and_eq_true_iff.2 ⟨up k q4, q5⟩⟩⟩))
  · rename_i hd
    rw [if_neg hd]
    exact up i hb
end
section
variable (names : List ByteArray) (hn : names.length ≤ 1000) (st : Stmt) (inn : List Bool) (hin : inn.length = names.length)
include hn hin
theorem set_mid {α : Type} (A B : List α) (v w : α) : (A ++ v :: B).set A.length w = A ++ w :: B := by simp
theorem at_mid (A B : List Bool) (v : Bool) : rdOf false (A ++ v :: B) ((A.length : Nat) : Int) = v := getD_at (by simp) _
theorem Bh_l1 (R : List Bool) (A B : List Bool) (hA : A.length < names.length) (hAB : (A.length + 1) + B.length = names.length) : ∀ (d k : Nat) (v : Bool), k + d = names.length →
    Ev (fun q => lambrequinref20_behind.l0 q names inn (A ++ (v || (decide (opK st) && (List.range' k d).any (usedB names st inn))) :: B) ((A.length + 1 : Nat) : Int) st.kind st.x st.y st.z st.op st.n st.a st.b) R →
    Ev (fun q => lambrequinref20_behind.l1 q names inn (A ++ v :: B) ((A.length : Nat) : Int) k st.kind st.x st.y st.z st.op st.n st.a st.b) R := by
  have out : ∀ (k : Nat) (v : Bool), Ev (fun q => lambrequinref20_behind.l0 q names inn (A ++ v :: B) ((A.length + 1 : Nat) : Int) st.kind st.x st.y st.z st.op st.n st.a st.b) R →
      Ev (fun q => lambrequinref20_behind.j2 q names inn (A ++ v :: B) ((A.length : Nat) : Int) k false st.kind st.x st.y st.z st.op st.n st.a st.b) R := by
    intro k v h
    refine Ev.step (fun k => by rw [lambrequinref20_behind.j2]) (Ev.neg (by simp) ?_)
    rw [wrap_up (by omega)]
    exact h
  intro d
  induction d with
  | zero =>
    intro k v e h
    refine Ev.step (fun k => by rw [lambrequinref20_behind.l1]) (Ev.neg (by omega) (out k v ?_))
    simpa using h
  | succ d ih =>
    intro k v e h
    refine Ev.step (fun k => by rw [lambrequinref20_behind.l1]) (Ev.pos (by omega) ?_)
    have on : opK st → Ev (fun q => lambrequinref20_behind.j2 q names inn (A ++ v :: B) ((A.length : Nat) : Int) k true st.kind st.x st.y st.z st.op st.n st.a st.b) R := by
      intro ho
      rw [List.range'_succ] at h
      simp only [List.any_cons, decide_eq_true ho, Bool.true_and] at h
      have rest : ∀ v', v' = (v || usedB names st inn k) → Ev (fun q => lambrequinref20_behind.l1 q names inn (A ++ v' :: B) ((A.length : Nat) : Int) ((k + 1 : Nat) : Int) st.kind st.x st.y st.z st.op st.n st.a st.b) R := by
        rintro v' rfl
        refine ih (k + 1) _ (by omega) ?_
        simp only [decide_eq_true ho, Bool.true_and, Bool.or_assoc]
        exact h
      refine Ev.step (fun k => by rw [lambrequinref20_behind.j2]) ?_
      refine Ev.pos rfl ?_
      refine Ev.pos (by omega) ?_
      refine Ev.pos (by simp <;> omega) ?_
      rw [at_mid names hn inn hin, wrap_up (n := k) (by omega), Int.toNat_natCast, set_mid names hn inn hin, set_mid names hn inn hin]
      cases v with
      | true => exact Ev.pos rfl (rest true (by simp))
      | false =>
        refine Ev.neg (by simp) ?_
        refine Ev.pos (by omega) ?_
        refine Ev.pos (by omega) ?_
        have hku : inn.getD k false = rdOf false inn (k : Int) := by unfold rdOf; rw [Int.toNat_natCast]
        by_cases hk : rdOf false inn (k : Int) = true
        · refine Ev.pos hk ?_
          refine Ev.bind (rUses_ev st) ?_
          refine Ev.pos (by omega) ?_
          refine Ev.bind (In_ev (usesS st) _ (by have := usesS_len st; omega)) ?_
          rw [set_mid names hn inn hin]
          refine rest _ ?_
          unfold usedB
          rw [hku, hk]
          rfl
        · refine Ev.neg hk (rest false ?_)
          unfold usedB
          rw [hku]
          have : rdOf false inn (k : Int) = false := by simpa using hk
          rw [this]
          rfl
    by_cases k2 : st.kind = 2
    · exact Ev.pos k2 (on (.inl k2))
    · refine Ev.neg k2 ?_
      by_cases k3 : st.kind = 3
      · rw [show (st.kind == 3) = true by simp [k3]]
        exact on (.inr k3)
      · rw [show (st.kind == 3) = false by simp [k3]]
        refine out k v ?_
        have hno : ¬ opK st := by unfold opK; omega
        simpa [hno] using h
theorem Bh_l0 : ∀ (d i : Nat), i + d = names.length → Ev (fun q => lambrequinref20_behind.l0 q names inn ((List.range i).map (bF names st inn) ++ inn.drop i) i st.kind st.x st.y st.z st.op st.n st.a st.b) (bhd names st inn)
  | 0, i, e => by
    refine Ev.step (fun k => by rw [lambrequinref20_behind.l0]) (Ev.neg (by omega) (Ev.some ?_))
    rw [List.drop_eq_nil_of_le (by omega), List.append_nil, show i = names.length by omega]
    rfl
  | d + 1, i, e => by
    have hi : i < inn.length := by omega
    have hd : inn.drop i = inn[i] :: inn.drop (i + 1) := List.drop_eq_getElem_cons hi
    have ih := Bh_l0 d (i + 1) (by omega)
    rw [List.range_succ, List.map_append, List.map_cons, List.map_nil, List.append_assoc, List.singleton_append] at ih
    have hlen : ((List.range i).map (bF names st inn)).length = i := by simp
    rw [hd]
    generalize hA : (List.range i).map (bF names st inn) = A at ih hlen ⊢
    refine Ev.step (fun k => by rw [lambrequinref20_behind.l0]) ?_
    refine Ev.pos (by omega) ?_
    refine Ev.pos (by omega) ?_
    refine Ev.pure (rDefines_eq st _) ?_
    rw [wrap_up (by omega)]
    have hnm : names.getD i ByteArray.empty = rdOf ByteArray.empty names (i : Int) := by unfold rdOf; rw [Int.toNat_natCast]
    cases hdf : defB st (rdOf ByteArray.empty names (i : Int)) with
    | false =>
      refine Ev.neg (by simp) ?_
      have e1 : bF names st inn i = inn[i] := by
        unfold bF
        rw [hnm, hdf, if_neg (by simp), List.getD_eq_getElem?_getD, List.getElem?_eq_getElem hi]
        rfl
      rw [e1] at ih
      exact ih
    | true =>
      refine Ev.pos rfl ?_
      refine Ev.pos (by simp <;> omega) ?_
      rw [Int.toNat_natCast]
      have e2 : ∀ v w : Bool, (A ++ v :: inn.drop (i + 1)).set i w = A ++ w :: inn.drop (i + 1) := by
        intro v w
        have := set_mid names hn inn hin A (inn.drop (i + 1)) v w
        rwa [hlen] at this
      rw [e2]
      have := Bh_l1 names hn st inn hin (bhd names st inn) A (inn.drop (i + 1)) (by omega) (by rw [List.length_drop]; omega) names.length 0 (st.kind == 4) (by omega)
      rw [hlen] at this
      refine this ?_
      have e1 : bF names st inn i = ((st.kind == 4) || (decide (opK st) && (List.range' 0 names.length).any (usedB names st inn))) := by
        unfold bF
        rw [hnm, hdf, if_pos rfl, List.range_eq_range']
        rfl
      rw [← e1]
      exact ih
theorem behind_ev : Ev (fun q => lambrequinref20_behind.f q st.kind st.x st.y st.z st.op st.n st.a st.b names inn) (bhd names st inn) := by
  unfold lambrequinref20_behind.f
  refine Ev.pure rfl (Ev.pos (by simp <;> omega) ?_)
  rw [List.nil_append]
  have := Bh_l0 names hn st inn hin names.length 0 (by omega)
  simpa using this
end
def orU (row out : List Bool) (i : Nat) : List Bool := row.set i (row.getD i false || out.getD i false)
theorem orU_up (row out : List Bool) (i : Nat) : leL row (orU row out i) := leL.set _ (fun h => by rw [List.getD_eq_getElem?_getD, h]; rfl)
theorem orU_hit {row0 row out : List Bool} {i : Nat} (h : leL row0 row) (ho : out.getD i false = true) (hi : i < row0.length) : (orU row out i)[i]? = some true := by
  unfold orU
  rw [ho, Bool.or_true, List.getElem?_set_self (by rw [← h.1]; exact hi)]
theorem orU_inv {Q : Nat → Prop} {row out : List Bool} {i : Nat} (h : ∀ j : Nat, row[j]? = some true → Q j) (ho : out.getD i false = true → Q i) : ∀ j : Nat, (orU row out i)[j]? = some true → Q j := by
  intro j hj
  unfold orU at hj
  rw [List.getElem?_set] at hj
  split at hj
  · rename_i e
    subst e
    split at hj
    · have hv := Option.some.inj hj
      rcases Bool.or_eq_true_iff.1 hv with q | q
      · exact h i (getD_true.1 q)
      · exact ho q
    · cases hj
  · exact h j hj
section
variable (l : List Stmt) (names : List ByteArray)
def orRow (out row : List Bool) : List Bool := (List.range names.length).foldl (fun r i => orU r out i) row
def colM (n : Nat) (out : List Bool) (t : List (List Bool)) (m : Nat) : List (List Bool) := if (m : Int) ∈ nxt l n then t.set m (orRow names out (t.getD m [])) else t
def rowM (t : List (List Bool)) (n : Nat) : List (List Bool) := (List.range l.length).foldl (colM l names n (bhd names (at_ l n) (t.getD n []))) t
def sweepM (t : List (List Bool)) : List (List Bool) := (List.range l.length).foldl (rowM l names) t
section
variable {β : Type} {g : List (List Bool) → β → List (List Bool)}
theorem foldM_up (hg : ∀ t b, leM t (g t b)) : ∀ (ps : List β) (t : List (List Bool)), leM t (ps.foldl g t)
  | [], t => leM.refl t
  | p :: ps, t => (hg t p).trans (foldM_up hg ps _)
theorem foldM_hit (hg : ∀ t b, leM t (g t b)) {m i : Nat} {b : β} {t0 : List (List Bool)} (h : ∀ t, leM t0 t → cel (g t b) m i = true) : ∀ (ps : List β) (t : List (List Bool)), b ∈ ps → leM t0 t → cel (ps.foldl g t) m i = true
  | p :: ps, t, hb, ht => by
    rcases List.mem_cons.1 hb with rfl | hb
    · exact cel_up (foldM_up hg ps _) (h t ht)
    · exact foldM_hit hg h ps _ hb (ht.trans (hg t p))
theorem foldM_inv {I : List (List Bool) → Prop} : ∀ (ps : List β) (t : List (List Bool)), (∀ t b, b ∈ ps → I t → I (g t b)) → I t → I (ps.foldl g t)
  | [], t, _, h => h
  | p :: ps, t, hg, h => foldM_inv ps _ (fun t b hb => hg t b (List.mem_cons_of_mem _ hb)) (hg t p (by simp) h)
end
theorem orRow_up (out row : List Bool) : leL row (orRow names out row) := fold_up (fun t b => orU_up t out b) _ _
theorem leM.setAt (t : List (List Bool)) (m : Nat) {f : List Bool → List Bool} (hf : ∀ r, leL r (f r)) : leM t (t.set m (f (t.getD m []))) := by
  by_cases hm : m < t.length
  · have e : t.getD m [] = t[m] := by rw [List.getD_eq_getElem?_getD, List.getElem?_eq_getElem hm]; rfl
    rw [e]
    exact leM.setRow (List.getElem?_eq_getElem hm) (hf _)
  · rw [List.set_eq_of_length_le (by omega)]
    exact leM.refl _
theorem colM_up (n : Nat) (out : List Bool) (t : List (List Bool)) (m : Nat) : leM t (colM l names n out t m) := by
  unfold colM
  split
  · exact leM.setAt t m (orRow_up names out)
  · exact leM.refl _
theorem rowM_up (t : List (List Bool)) (n : Nat) : leM t (rowM l names t n) := foldM_up (fun t m => colM_up l names n _ t m) _ _
theorem sweepM_up (t : List (List Bool)) : leM t (sweepM l names t) := foldM_up (fun t n => rowM_up l names t n) _ _
/-- as many rows as statements, each as long as the names -/
def Tab (t : List (List Bool)) : Prop := t.length = l.length ∧ ∀ r ∈ t, r.length = names.length
theorem Tab.of_up {t t' : List (List Bool)} (h : Tab l names t) (hu : leM t t') : Tab l names t' := by
  refine ⟨hu.1 ▸ h.1, fun r hr => ?_⟩
  obtain ⟨m, hm, rfl⟩ := List.getElem_of_mem hr
  have hm2 : m < t.length := by have := hu.1; omega
  rw [← (hu.2 m _ _ (List.getElem?_eq_getElem hm2) (List.getElem?_eq_getElem hm)).1]
  exact h.2 _ (List.getElem_mem _)
theorem Tab.row {t : List (List Bool)} (h : Tab l names t) {m : Nat} (hm : m < l.length) : (t.getD m []).length = names.length ∧ t[m]? = some (t.getD m []) := by
  have hm2 : m < t.length := by have := h.1; omega
  have e : t.getD m [] = t[m] := by rw [List.getD_eq_getElem?_getD, List.getElem?_eq_getElem hm2]; rfl
  rw [e]
  exact ⟨h.2 _ (List.getElem_mem _), List.getElem?_eq_getElem hm2⟩
theorem cel_set {t : List (List Bool)} {m : Nat} (hm : m < t.length) (r : List Bool) (i : Nat) : cel (t.set m r) m i = r.getD i false := by
  unfold cel
  rw [List.getD_eq_getElem?_getD (l := t.set m r), List.getElem?_set_self hm]
  rfl
theorem sweepM_hit {t : List (List Bool)} (ht : Tab l names t) {n m i : Nat} (hn : n < l.length) (hm : (m : Int) ∈ nxt l n) (hi : i < names.length) (hb : bF names (at_ l n) (t.getD n []) i = true) : cel (sweepM l names t) m i = true := by
  have hw := nxt_within hm
  have hml : m < l.length := by omega
  refine foldM_hit (b := n) (t0 := t) (fun t b => rowM_up l names t b) (fun t1 h1 => ?_) _ _ (List.mem_range.2 hn) (leM.refl _)
  have T1 := ht.of_up l names h1
  have r0 := ht.row l names hn
  have r1 := T1.row l names hn
  have hb1 := bF_up names (at_ l n) _ (h1.2 n _ _ r0.2 r1.2) hb
  have hout : (bhd names (at_ l n) (t1.getD n [])).getD i false = true := by rw [getD_true, bhd_at _ _ _ hi, hb1]
  refine foldM_hit (b := m) (t0 := t1) (fun t b => colM_up l names n _ t b) (fun t2 h2 => ?_) _ _ (List.mem_range.2 hml) (leM.refl _)
  have T2 := T1.of_up l names h2
  have r2 := T2.row l names hml
  unfold colM
  rw [if_pos hm, cel_set (by have := T2.1; omega), getD_true]
  exact fold_hit (b := i) (t0 := t2.getD m []) (fun t b => orU_up t _ b) (fun t3 h3 => orU_hit h3 hout (by rw [r2.1]; exact hi)) _ _ (List.mem_range.2 hi) (leL.refl _)
theorem sweepM_inv {Q : Nat → Nat → Prop} (hq : ∀ (n m i : Nat) (inn : List Bool), (∀ j : Nat, inn.getD j false = true → Q n j) → (m : Int) ∈ nxt l n → i < names.length → bF names (at_ l n) inn i = true → Q m i) {t : List (List Bool)} (h : ∀ m i : Nat, cel t m i = true → Q m i) : ∀ m i : Nat, cel (sweepM l names t) m i = true → Q m i := by
  refine foldM_inv (I := fun t => ∀ m i : Nat, cel t m i = true → Q m i) _ _ (fun t n _ h => ?_) h
  have hout : ∀ i : Nat, (bhd names (at_ l n) (t.getD n [])).getD i false = true → i < names.length ∧ bF names (at_ l n) (t.getD n []) i = true := by
    intro i hi
    have hi2 := getD_true.1 hi
    have hlt := (List.getElem?_eq_some_iff.1 hi2).1
    rw [bhd_len] at hlt
    rw [bhd_at _ _ _ hlt] at hi2
    exact ⟨hlt, Option.some.inj hi2⟩
  generalize hO : bhd names (at_ l n) (t.getD n []) = out at hout
  have hin : ∀ j : Nat, (t.getD n []).getD j false = true → Q n j := fun j hj => h n j hj
  unfold rowM
  rw [hO]
  refine foldM_inv (I := fun t => ∀ m i : Nat, cel t m i = true → Q m i) _ _ (fun t2 m _ h2 => ?_) h
  unfold colM
  split
  · rename_i hm
    intro m' i' hc
    by_cases e : m' = m
    · subst e
      by_cases hl : m' < t2.length
      · rw [cel_set hl, getD_true] at hc
        refine fold_inv (I := fun r => ∀ j : Nat, r[j]? = some true → Q m' j) _ _ (fun r i _ hr => orU_inv hr (fun ho => ?_)) (fun j hj => h2 m' j (getD_true.2 hj)) i' hc
        obtain ⟨h3, h4⟩ := hout i ho
        exact hq n m' i _ hin hm h3 h4
      · rw [List.set_eq_of_length_le (by omega)] at hc
        exact h2 m' i' hc
    · refine h2 m' i' ?_
      unfold cel at hc ⊢
      rw [List.getD_eq_getElem?_getD (l := t2.set m _), List.getElem?_set_ne (fun q => e q.symm), ← List.getD_eq_getElem?_getD] at hc
      exact hc
  · exact h2
end
section
variable (l : List Stmt) (hl : l.length ≤ 25) (names : List ByteArray) (hn : names.length ≤ 100)
include hl hn
theorem Ah_l4 (turn n : Nat) (out : List Bool) (hout : out.length = names.length) (m : Nat) (hm : m < l.length) (R : List (List Bool)) (hld : (m : Int) ∈ nxt l n) : ∀ (d i : Nat) (t : List (List Bool)), i + d = names.length → Tab l names t →
    (∀ t', t' = t.set m ((List.range' i d).foldl (fun r i => orU r out i) (t.getD m [])) → Ev (fun k => lambrequinref20_Ahead.l3 k l names t' turn n out ((m + 1 : Nat) : Int)) R) → Ev (fun k => lambrequinref20_Ahead.l4 k l names t turn n out m i) R
  | 0, i, t, e, ht, go => by
    refine Ev.step (fun k => by rw [lambrequinref20_Ahead.l4]) ?_
    refine Ev.neg (by omega) ?_
    rw [wrap_up (by omega)]
    refine go t ?_
    have := (ht.row l names hm).2
    have hm2 := (List.getElem?_eq_some_iff.1 this).1
    have e1 : t.getD m [] = t[m] := by rw [List.getD_eq_getElem?_getD, List.getElem?_eq_getElem hm2]; rfl
    show t = t.set m (t.getD m [])
    rw [e1, List.set_getElem_self]
  | d + 1, i, t, e, ht, go => by
    have hr := ht.row l names hm
    have hm2 := (List.getElem?_eq_some_iff.1 hr.2).1
    refine Ev.step (fun k => by rw [lambrequinref20_Ahead.l4]) ?_
    refine Ev.pos (by omega) ?_
    refine Ev.bind (Leads_ev l n m) ?_
    refine Ev.pos (decide_eq_true hld) ?_
    refine Ev.pos (show (0 : Int) ≤ (m : Int) by omega) ?_
    refine Ev.pos (show (m : Int) < (t.length : Int) by omega) ?_
    refine Ev.pos (show (0 : Int) ≤ (i : Int) by omega) ?_
    have hrd : rd_L6 t (m : Int) = t.getD m [] := by unfold rd_L6; rw [Int.toNat_natCast]
    rw [hrd]
    refine Ev.pos (show (i : Int) < ((t.getD m []).length : Int) by omega) ?_
    rw [wrap_up (by omega), Int.toNat_natCast, Int.toNat_natCast]
    have hcell : rdOf false (t.getD m []) (i : Int) = (t.getD m []).getD i false := by unfold rdOf; rw [Int.toNat_natCast]
    have hco : rdOf false out (i : Int) = out.getD i false := by unfold rdOf; rw [Int.toNat_natCast]
    have rest : ∀ v : Bool, v = ((t.getD m []).getD i false || out.getD i false) → Ev (fun k => lambrequinref20_Ahead.l4 k l names (t.set m ((t.getD m []).set i v)) turn n out m ((i + 1 : Nat) : Int)) R := by
      intro v hv
      have hup : leM t (t.set m ((t.getD m []).set i v)) := leM.setRow hr.2 (leL.set _ (fun h => by rw [hv, List.getD_eq_getElem?_getD, h]; rfl))
      refine Ah_l4 turn n out hout m hm R hld d (i + 1) _ (by omega) (ht.of_up l names hup) (fun t' h => go t' ?_)
      rw [h, List.range'_succ, List.set_set]
      congr 1
      rw [List.getD_eq_getElem?_getD (l := t.set m _), List.getElem?_set_self hm2]
      simp only [List.foldl_cons, Option.getD_some]
      congr 1
      unfold orU
      rw [hv]
    rw [hcell]
    by_cases hc : (t.getD m []).getD i false = true
    · exact Ev.pos hc (rest true (by rw [hc]; rfl))
    · refine Ev.neg hc ?_
      refine Ev.pos (show (i : Int) < (out.length : Int) by omega) ?_
      rw [hco]
      exact rest _ (by simp only [Bool.not_eq_true] at hc; rw [hc]; rfl)
theorem Ah_l3 (turn n : Nat) (hnl : n < l.length) (out : List Bool) (hout : out.length = names.length) (R : List (List Bool)) : ∀ (d m : Nat) (t : List (List Bool)), m + d = l.length → Tab l names t →
    (∀ t', t' = (List.range' m d).foldl (colM l names n out) t → Ev (fun k => lambrequinref20_Ahead.l2 k l names t' turn ((n + 1 : Nat) : Int)) R) → Ev (fun k => lambrequinref20_Ahead.l3 k l names t turn n out m) R
  | 0, m, t, e, ht, go => by
    refine Ev.step (fun k => by rw [lambrequinref20_Ahead.l3]) (Ev.neg (by omega) ?_)
    rw [wrap_up (by omega)]
    exact go t rfl
  | d + 1, m, t, e, ht, go => by
    refine Ev.step (fun k => by rw [lambrequinref20_Ahead.l3]) (Ev.pos (by omega) ?_)
    have rest : ∀ t', t' = colM l names n out t m → Ev (fun k => lambrequinref20_Ahead.l3 k l names t' turn n out ((m + 1 : Nat) : Int)) R := by
      rintro t' rfl
      refine Ah_l3 turn n hnl out hout R d (m + 1) _ (by omega) (ht.of_up l names (colM_up l names n out t m)) (fun t' h => go t' ?_)
      rw [h, List.range'_succ]
      rfl
    by_cases hld : (m : Int) ∈ nxt l n
    · refine Ah_l4 l hl names hn turn n out hout m (by omega) R hld names.length 0 t (by omega) ht (fun t' h => rest t' ?_)
      unfold colM orRow
      rw [if_pos hld, h, List.range_eq_range']
    · have rest' := rest t (by unfold colM; rw [if_neg hld])
      refine Ev.step (fun k => by rw [lambrequinref20_Ahead.l4]) ?_
      rw [wrap_up (by omega)]
      by_cases hz : names.length = 0
      · exact Ev.neg (by omega) rest'
      · refine Ev.pos (by omega) ?_
        refine Ev.bind (Leads_ev l n m) ?_
        exact Ev.neg (by simpa using hld) rest'
theorem Ah_l2 (turn : Nat) (hturn : turn < 100000) (R : List (List Bool)) : ∀ (d n : Nat) (t : List (List Bool)), n + d = l.length → Tab l names t →
    (∀ t', t' = (List.range' n d).foldl (rowM l names) t → Ev (fun k => lambrequinref20_Ahead.l1 k l names t' ((turn + 1 : Nat) : Int)) R) → Ev (fun k => lambrequinref20_Ahead.l2 k l names t turn n) R
  | 0, n, t, e, ht, go => by
    refine Ev.step (fun k => by rw [lambrequinref20_Ahead.l2]) (Ev.neg (by omega) ?_)
    rw [wrap_up (by omega)]
    exact go t rfl
  | d + 1, n, t, e, ht, go => by
    have hr := ht.row l names (show n < l.length by omega)
    have hn2 := (List.getElem?_eq_some_iff.1 hr.2).1
    refine Ev.step (fun k => by rw [lambrequinref20_Ahead.l2]) ?_
    refine Ev.pos (by omega) ?_
    refine Ev.pos (by omega) ?_
    refine Ev.pos (by omega) ?_
    have hrd : rd_L6 t (n : Int) = t.getD n [] := by unfold rd_L6; rw [Int.toNat_natCast]
    rw [hrd]
    refine Ev.bind (behind_ev names (by omega) (at_ l n) (t.getD n []) hr.1) ?_
    refine Ah_l3 l hl names hn turn n (by omega) _ (bhd_len _ _ _) R l.length 0 t (by omega) ht (fun t' h => ?_)
    have h' : t' = rowM l names t n := by rw [h, ← List.range_eq_range']; rfl
    refine Ah_l2 turn hturn R d (n + 1) t' (by omega) (h' ▸ ht.of_up l names (rowM_up l names t n)) (fun t2 h2 => go t2 ?_)
    rw [h2, h', List.range'_succ]
    rfl
theorem Ah_l1 : ∀ (d turn : Nat) (t : List (List Bool)), turn + d = l.length * names.length + 1 → Tab l names t →
    Ev (fun k => lambrequinref20_Ahead.l1 k l names t turn) (itr (sweepM l names) d t)
  | 0, turn, t, e, ht => by
    have hp : l.length * names.length ≤ 25 * 100 := Nat.mul_le_mul hl hn
    have hw : wrap64 ((l.length : Int) * (names.length : Int)) = ((l.length * names.length : Nat) : Int) := by
      rw [← Int.natCast_mul]; unfold wrap64; omega
    refine Ev.step (fun k => by rw [lambrequinref20_Ahead.l1]) ?_
    rw [hw]
    exact Ev.neg (by omega) (Ev.now _)
  | d + 1, turn, t, e, ht => by
    have hp : l.length * names.length ≤ 25 * 100 := Nat.mul_le_mul hl hn
    have hw : wrap64 ((l.length : Int) * (names.length : Int)) = ((l.length * names.length : Nat) : Int) := by
      rw [← Int.natCast_mul]; unfold wrap64; omega
    refine Ev.step (fun k => by rw [lambrequinref20_Ahead.l1]) ?_
    rw [hw]
    refine Ev.pos (by omega) ?_
    refine Ah_l2 l hl names hn turn (by omega) _ l.length 0 t (by omega) ht (fun t' h => ?_)
    have h' : t' = sweepM l names t := by rw [h, ← List.range_eq_range']; rfl
    rw [h']
    exact Ah_l1 d (turn + 1) _ (by omega) (ht.of_up l names (sweepM_up l names t))
def t0M : List (List Bool) := List.replicate l.length (List.replicate names.length false)
theorem Ah_l0 : ∀ (d n : Nat), n + d = l.length → Ev (fun k => lambrequinref20_Ahead.l0 k l names (List.replicate n (List.replicate names.length false)) n) (itr (sweepM l names) (l.length * names.length + 1) (List.replicate l.length (List.replicate names.length false)))
  | 0, n, e => by
    refine Ev.step (fun k => by rw [lambrequinref20_Ahead.l0]) ?_
    refine Ev.neg (by omega) ?_
    rw [show n = l.length by omega]
    refine Ah_l1 l hl names hn _ 0 _ (by omega) ⟨by simp, fun r hr => ?_⟩
    rw [(List.mem_replicate.1 hr).2]
    simp
  | d + 1, n, e => by
    refine Ev.step (fun k => by rw [lambrequinref20_Ahead.l0]) ?_
    refine Ev.pos (by omega) ?_
    refine Ev.pos (by omega) ?_
    refine Ev.pos (by omega) ?_
    refine Ev.pos (by simp; omega) ?_
    rw [wrap_up (by omega), Int.toNat_natCast, ← List.replicate_succ']
    exact Ah_l0 d (n + 1) (by omega)
theorem Ahead_ev : Ev (fun k => lambrequinref20_Ahead.f k l names) (itr (sweepM l names) (l.length * names.length + 1) (List.replicate l.length (List.replicate names.length false))) := Ah_l0 l hl names hn l.length 0 (by omega)
theorem rTa_l0 (n : Nat) (hnl : n < l.length) (x : ByteArray) (T : List (List Bool)) (hT : Tab l names T) (R : Bool) : ∀ (r : List ByteArray) (i : Nat), names.drop i = r → (∀ i, names[i]? = some x → R = cel T n i) → (x ∉ names → R = false) → (x ∉ names.take i) →
    Ev (fun k => lambrequinref20_Taints.l0 k n x names T i) R
  | [], i, h, h1, h2, h3 => by
    refine Ev.step (fun k => by rw [lambrequinref20_Taints.l0]) (Ev.neg (drop_end h) (Ev.some ?_))
    refine (h2 fun hx => h3 ?_).symm
    have hd := drop_end h
    rw [List.take_of_length_le (by omega)]
    exact hx
  | y :: r, i, h, h1, h2, h3 => by
    obtain ⟨g1, g2, g3, g4, g5⟩ := drop_more h (by omega)
    have hr := hT.row l names hnl
    have hn2 := (List.getElem?_eq_some_iff.1 hr.2).1
    have hy : names[i]? = some y := by
      have := congrArg (fun z => z[0]?) h
      simpa using this
    refine Ev.step (fun k => by rw [lambrequinref20_Taints.l0]) ?_
    refine Ev.pos g1 ?_
    refine Ev.pos g2 ?_
    rw [show rdOf ByteArray.empty names (i : Int) = y from g3 _, g5]
    by_cases c : y = x
    · subst c
      refine Ev.pos rfl ?_
      refine Ev.pos (show (0 : Int) ≤ (n : Int) by omega) ?_
      refine Ev.pos (show (n : Int) < (T.length : Int) by omega) ?_
      have hrd : rd_L6 T (n : Int) = T.getD n [] := by unfold rd_L6; rw [Int.toNat_natCast]
      rw [hrd]
      refine Ev.pos (by omega) (Ev.some ?_)
      rw [h1 i hy]
      unfold rdOf cel
      rw [Int.toNat_natCast]
    · refine Ev.neg (by rw [lib_ba_eq]; exact c) ?_
      refine rTa_l0 n hnl x T hT R r (i + 1) g4 h1 h2 ?_
      rw [List.take_add_one, hy]
      simp only [Option.toList_some, List.mem_append, List.mem_singleton, not_or]
      exact ⟨h3, fun e => c e.symm⟩
end
theorem rTaints_ev (l : List Stmt) (hl : l.length ≤ 25) (n : Int) (x : ByteArray) : ∃ b, Ev (fun k => lambrequinref20_Taints.f k l n x) b ∧ (b = true ↔ taintP l n x) := by
  unfold lambrequinref20_Taints.f
  have hnl : (nmsT l).length ≤ 75 := by have := names_len l; unfold nmsT; omega
  have nev : Ev (fun k => lambrequinref20_Names.f k l) (nmsT l) := rNames_l0 l (by omega) l 0 [] rfl (by omega) (by simp)
  have out : ¬ taintP l n x → ∃ b, Ev (fun k => lambrequinref20_Taints.j0 k l n x (nmsT l) true) b ∧ (b = true ↔ taintP l n x) := fun h =>
    ⟨false, Ev.step (fun k => by rw [lambrequinref20_Taints.j0]) (Ev.pos rfl (Ev.now _)), by simp [h]⟩
  by_cases c1 : n < 0
  · obtain ⟨b, hb, e⟩ := out (fun h => by have := h.1; omega)
    exact ⟨b, Ev.bind nev (Ev.pos c1 hb), e⟩
  · by_cases c2 : n ≥ (l.length : Int)
    · obtain ⟨b, hb, e⟩ := out (fun h => by have := h.2.1; omega)
      exact ⟨b, Ev.bind nev (Ev.neg c1 (by rw [decide_eq_true c2]; exact hb)), e⟩
    · obtain ⟨m, rfl⟩ : ∃ m : Nat, n = (m : Int) := ⟨n.toNat, by omega⟩
      have hm : m < l.length := by omega
      let names := nmsT l
      have hnl2 : names.length ≤ 100 := by show (nmsT l).length ≤ 100; omega
      let t0 : List (List Bool) := List.replicate l.length (List.replicate names.length false)
      let B := l.length * names.length
      let T := itr (sweepM l names) (B + 1) t0
      have ht0 : Tab l names t0 := ⟨by simp [t0], fun r hr => by rw [(List.mem_replicate.1 hr).2]; simp⟩
      have hT : Tab l names T := by
        have : ∀ (k : Nat) (t : List (List Bool)), Tab l names t → Tab l names (itr (sweepM l names) k t) := by
          intro k
          induction k with
          | zero => exact fun t h => h
          | succ k ih => exact fun t h => ih _ (h.of_up l names (sweepM_up l names t))
        exact this _ _ ht0
      have hfix : sweepM l names T = T :=
        iter_fixed (sweepM l names) cnt B (Tab l names) (fun t h => cnt_le h.1 h.2) (fun t h => h.of_up l names (sweepM_up l names t)) (fun t h => (sweepM_up l names t).count) ht0 (B + 1) (Nat.le_succ _)
      have hsound : ∀ q i : Nat, cel T q i = true → ∀ y, names[i]? = some y → taintP l q y := by
        have : ∀ (k : Nat) (t : List (List Bool)), (∀ q i : Nat, cel t q i = true → ∀ y, names[i]? = some y → taintP l q y) → ∀ q i : Nat, cel (itr (sweepM l names) k t) q i = true → ∀ y, names[i]? = some y → taintP l q y := by
          intro k
          induction k with
          | zero => exact fun t h => h
          | succ k ih =>
            refine fun t h => ih _ (sweepM_inv l names (Q := fun q i => ∀ y, names[i]? = some y → taintP l q y) (fun a q i inn hin hq hi hb y hy => ?_) h)
            refine taint_iff.2 ⟨a, hq, ?_⟩
            have hny : names.getD i ByteArray.empty = y := by rw [List.getD_eq_getElem?_getD, hy]; rfl
            unfold bF at hb
            rw [hny] at hb
            unfold hands
            by_cases hd : defB (at_ l a) y = true
            · rw [if_pos hd] at hb
              rcases Bool.or_eq_true_iff.1 hb with h4 | h4
              · exact .inl ⟨hd, by simpa using h4⟩
              · obtain ⟨h5, h6⟩ := Bool.and_eq_true_iff.1 h4
                obtain ⟨z, hz, h7⟩ := List.any_eq_true.1 h6
                obtain ⟨h8, h9⟩ := Bool.and_eq_true_iff.1 h7
                have hzl := List.mem_range.1 hz
                have hz2 : names[z]? = some (names.getD z ByteArray.empty) := by rw [List.getD_eq_getElem?_getD, List.getElem?_eq_getElem hzl]; rfl
                exact .inr (.inr ⟨hd, by simpa using h5, _, mem_iff.1 h9, hin z h8 _ hz2⟩)
            · rw [if_neg hd] at hb
              exact .inr (.inl ⟨by simpa using hd, hin i hb y hy⟩)
        refine this _ _ (fun q i hc => ?_)
        exfalso
        have h1 := getD_true.1 hc
        have hq : t0.getD q [] = if q < l.length then List.replicate names.length false else [] := by
          rw [List.getD_eq_getElem?_getD, List.getElem?_replicate]
          split <;> rfl
        rw [hq] at h1
        split at h1
        · rw [List.getElem?_replicate] at h1
          split at h1 <;> simp at h1
        · simp at h1
      have hcomp : ∀ {q : Int} {y : ByteArray}, taintP l q y → ∀ i : Nat, names[i]? = some y → cel T q.toNat i = true := by
        intro q y h
        refine taint_ind (P := fun q y => ∀ i : Nat, names[i]? = some y → cel T q.toNat i = true) (fun a b y hb hh i hi => ?_) h
        have hw := nxt_within hb
        have hil := (List.getElem?_eq_some_iff.1 hi).1
        have hny : names.getD i ByteArray.empty = y := by rw [List.getD_eq_getElem?_getD, hi]; rfl
        rw [← hfix]
        have ea : ((a.toNat : Nat) : Int) = a := by omega
        have eb : ((b.toNat : Nat) : Int) = b := by omega
        refine sweepM_hit l names hT (n := a.toNat) (m := b.toNat) (by omega) (by rw [ea, eb]; exact hb) hil ?_
        rw [ea]
        unfold bF
        rw [hny]
        rcases hh with ⟨h1, h2⟩ | ⟨h1, h2, h3⟩ | ⟨h1, h2, u, h3, h4, h5⟩
        · rw [if_pos h1, decide_eq_true h2]; rfl
        · rw [if_neg (by rw [h1]; simp)]
          exact h2 i hi
        · rw [if_pos h1, decide_eq_true h2]
          obtain ⟨z, hz1, hz2, hz3⟩ := idxS_at (names := names) h5.2.2.1
          have : (List.range names.length).any (usedB names (at_ l a) (T.getD a.toNat [])) = true := by
            refine List.any_eq_true.2 ⟨z, List.mem_range.2 hz3, Bool.and_eq_true_iff.2 ⟨h4 z hz2, ?_⟩⟩
            rw [mem_iff, List.getD_eq_getElem?_getD, hz2]
            exact h3
          rw [this]
          simp
      refine ⟨open Classical in decide (taintP l m x), Ev.bind nev (Ev.neg c1 ?_), by simp⟩
      rw [decide_eq_false c2]
      refine Ev.step (fun k => by rw [lambrequinref20_Taints.j0]) (Ev.neg (by simp) (Ev.bind (Ahead_ev l hl names hnl2) ?_))
      refine rTa_l0 l hl names hnl2 m hm x T hT _ names 0 rfl (fun i hi => ?_) (fun hx => ?_) (by simp)
      · have e : cel T m i = true ↔ taintP l m x := by
          constructor
          · exact fun h => hsound m i h x hi
          · intro h
            have := hcomp h i hi
            rwa [Int.toNat_natCast] at this
        rw [Bool.eq_iff_iff, e]
        simp
      · rw [decide_eq_false_iff_not]
        exact fun h => hx h.2.2.1
end Go.Proofs.Ytnepgcbgkhikkaa.H
/- the document's example at the head of all laws of layer 20 -/
namespace Go.Proofs.Ytnepgcbgkhikkaa.H
open Go.RowKit Go.Proofs.YtnepgcbgkhikkaaW.PrintWords Go.Proofs.YtnepgcbgkhikkaaW.PrintLast Go.Proofs.YtnepgcbgkhikkaaW.PrintMore
def exX : ByteArray := (⟨#[120]⟩ : ByteArray)
def exL : List Stmt := [(⟨1, (⟨#[120]⟩ : ByteArray), (⟨#[]⟩ : ByteArray), (⟨#[]⟩ : ByteArray), (⟨#[]⟩ : ByteArray), 1, 0, 0⟩ : Stmt), (⟨6, (⟨#[]⟩ : ByteArray), (⟨#[120]⟩ : ByteArray), (⟨#[]⟩ : ByteArray), (⟨#[]⟩ : ByteArray), 0, 0, 0⟩ : Stmt), (⟨9, (⟨#[]⟩ : ByteArray), (⟨#[]⟩ : ByteArray), (⟨#[]⟩ : ByteArray), (⟨#[]⟩ : ByteArray), 0, 0, 0⟩ : Stmt)]
theorem exn (n : Int) : nxt exL n = if n = 0 then [1] else if n = 1 then [2] else [] := by
  by_cases h0 : n = 0
  · subst h0; decide +kernel
  · by_cases h1 : n = 1
    · subst h1; decide +kernel
    · by_cases h2 : n = 2
      · subst h2; decide +kernel
      · unfold nxt
        rw [if_neg (by intro h; have : (exL.length : Int) = 3 := rfl; omega), if_neg h0, if_neg h1]
theorem ex_l : exL.length ≤ 1000 := by decide
theorem ex_k0 : keepS exL exX 0 = false := by decide +kernel
theorem ex_k1 : keepS exL exX 1 = true := by decide +kernel
theorem ex_r1 : Rch exL (keepS exL exX) (nxt exL 0) 1 := .base (by rw [show nxt exL 0 = [1] by rw [exn]; rfl]; simp)
theorem ex_R1 : Ev (fun k => cfg_Reaches.f k exL 1 exX 0) true := ev_yes (Reaches_ev exL 1 exX 0 ex_l) ⟨by decide, by decide, by decide, by decide, by decide +kernel, ex_r1⟩
theorem ex_R2 : Ev (fun k => cfg_Reaches.f k exL 2 exX 0) true := ev_yes (Reaches_ev exL 2 exX 0 ex_l) ⟨by decide, by decide, by decide, by decide, by decide +kernel, .step ex_r1 ex_k1 (by rw [exn]; decide)⟩
theorem ex_R0 : Ev (fun k => cfg_Reaches.f k exL 0 exX 0) false := by
  have n0 : ∀ m : Int, (0 : Int) ∈ nxt exL m → False := by
    intro m hm
    rw [exn] at hm
    split at hm
    · simp at hm
    · split at hm <;> simp at hm
  refine ev_no (Reaches_ev exL 0 exX 0 ex_l) ?_
  rintro ⟨-, -, -, -, -, h⟩
  cases h with
  | base h => exact n0 _ h
  | step _ _ h => exact n0 _ h
theorem ex_L1 : Ev (fun k => cfg_Lives.f k exL 1 exX) true := ev_yes (Lives_ev exL 1 exX ex_l) ⟨by decide, by decide, 1, .base (by simp), mem_iff.1 (by decide +kernel)⟩
theorem ex_L0 : Ev (fun k => cfg_Lives.f k exL 0 exX) false := by
  refine ev_no (Lives_ev exL 0 exX ex_l) ?_
  rintro ⟨-, -, m, h, hu⟩
  have : m = 0 := by
    clear hu
    induction h with
    | base h => simpa using h
    | step h1 ho hj ih => rw [ih, ex_k0] at ho; cases ho
  subst this
  rw [← mem_iff] at hu
  revert hu; decide +kernel
theorem ex_L2 : Ev (fun k => cfg_Lives.f k exL 2 exX) false := by
  refine ev_no (Lives_ev exL 2 exX ex_l) ?_
  rintro ⟨-, -, m, h, hu⟩
  have : m = 2 := by
    clear hu
    induction h with
    | base h => simpa using h
    | step h1 ho hj ih => rw [ih, exn] at hj; simp at hj
  subst this
  rw [← mem_iff] at hu
  revert hu; decide +kernel
theorem ex_N1 : nxt exL 1 = [2] := by rw [exn]; decide
def lambrequinlaw20_shown.f (k : Nat) : Option Bool := some true
theorem lambrequinlaw20_shown.mono : ∀ k, LeO (lambrequinlaw20_shown.f k) (lambrequinlaw20_shown.f (k + 1)) := fun _ => LeO.refl _
theorem shown20_ev : Ev (fun k => lambrequinlaw20_shown.f k) true := Ev.now _
theorem C_exL {W : World} {g : Nat} (h : W.heap[g]? = some (.cells #[.int .i64 1, .string ⟨#[120]⟩, .string ⟨#[]⟩, .string ⟨#[]⟩, .string ⟨#[]⟩, .int .i64 1, .int .i64 0, .int .i64 0, .int .i64 6, .string ⟨#[]⟩, .string ⟨#[120]⟩, .string ⟨#[]⟩, .string ⟨#[]⟩, .int .i64 0, .int .i64 0, .int .i64 0, .int .i64 9, .string ⟨#[]⟩, .string ⟨#[]⟩, .string ⟨#[]⟩, .string ⟨#[]⟩, .int .i64 0, .int .i64 0, .int .i64 0] 30 (0, 0))) : Kd.C k30 W (some ⟨g, 0, none⟩) exL.length exL :=
  C_cells h (Reps.snoc (Reps.snoc (Reps.snoc (Reps.none _ _) (k30_mk W exL[0]) rfl) (k30_mk W exL[1]) rfl) (k30_mk W exL[2]) rfl) (by decide)
theorem sh_reach (n : Int) (b : Bool) (hb : Ev (fun k => cfg_Reaches.f k exL n exX 0) b) (w W : World) (h : Aside0 (W.heap[w.heap.size]? = some (.cells #[.int .i64 1, .string ⟨#[120]⟩, .string ⟨#[]⟩, .string ⟨#[]⟩, .string ⟨#[]⟩, .int .i64 1, .int .i64 0, .int .i64 0, .int .i64 6, .string ⟨#[]⟩, .string ⟨#[120]⟩, .string ⟨#[]⟩, .string ⟨#[]⟩, .int .i64 0, .int .i64 0, .int .i64 0, .int .i64 9, .string ⟨#[]⟩, .string ⟨#[]⟩, .string ⟨#[]⟩, .string ⟨#[]⟩, .int .i64 0, .int .i64 0, .int .i64 0] 30 (0, 0)))) (hB : Aside0 (Below w.heap.size w W)) :
    Calls Try.prog 23 #[.slice (some ⟨w.heap.size, 0, none⟩) 3 3, .int .i64 n, .string ⟨#[120]⟩, .int .i64 0] W fun e w' => e = .returned (.bool b) ∧ Aside0 (w'.heap[w.heap.size]? = some (.cells #[.int .i64 1, .string ⟨#[120]⟩, .string ⟨#[]⟩, .string ⟨#[]⟩, .string ⟨#[]⟩, .int .i64 1, .int .i64 0, .int .i64 0, .int .i64 6, .string ⟨#[]⟩, .string ⟨#[120]⟩, .string ⟨#[]⟩, .string ⟨#[]⟩, .int .i64 0, .int .i64 0, .int .i64 0, .int .i64 9, .string ⟨#[]⟩, .string ⟨#[]⟩, .string ⟨#[]⟩, .string ⟨#[]⟩, .int .i64 0, .int .i64 0, .int .i64 0] 30 (0, 0))) ∧ Aside0 (Below w.heap.size w w') := by
  obtain ⟨K, hk⟩ := Ev.rounds hb
  exact (cfg_Reaches.calls K _ 3 exL n exX 0 b W (C_exL h.out) (by decide) hk).mono fun e w' h' => ⟨h'.1, ⟨blk_below h.out h'.2⟩, ⟨Below.then hB.out h'.2⟩⟩
theorem sh_live (n : Int) (b : Bool) (hb : Ev (fun k => cfg_Lives.f k exL n exX) b) (w W : World) (h : Aside0 (W.heap[w.heap.size]? = some (.cells #[.int .i64 1, .string ⟨#[120]⟩, .string ⟨#[]⟩, .string ⟨#[]⟩, .string ⟨#[]⟩, .int .i64 1, .int .i64 0, .int .i64 0, .int .i64 6, .string ⟨#[]⟩, .string ⟨#[120]⟩, .string ⟨#[]⟩, .string ⟨#[]⟩, .int .i64 0, .int .i64 0, .int .i64 0, .int .i64 9, .string ⟨#[]⟩, .string ⟨#[]⟩, .string ⟨#[]⟩, .string ⟨#[]⟩, .int .i64 0, .int .i64 0, .int .i64 0] 30 (0, 0)))) (hB : Aside0 (Below w.heap.size w W)) :
    Calls Try.prog 18 #[.slice (some ⟨w.heap.size, 0, none⟩) 3 3, .int .i64 n, .string ⟨#[120]⟩] W fun e w' => e = .returned (.bool b) ∧ Aside0 (w'.heap[w.heap.size]? = some (.cells #[.int .i64 1, .string ⟨#[120]⟩, .string ⟨#[]⟩, .string ⟨#[]⟩, .string ⟨#[]⟩, .int .i64 1, .int .i64 0, .int .i64 0, .int .i64 6, .string ⟨#[]⟩, .string ⟨#[120]⟩, .string ⟨#[]⟩, .string ⟨#[]⟩, .int .i64 0, .int .i64 0, .int .i64 0, .int .i64 9, .string ⟨#[]⟩, .string ⟨#[]⟩, .string ⟨#[]⟩, .string ⟨#[]⟩, .int .i64 0, .int .i64 0, .int .i64 0] 30 (0, 0))) ∧ Aside0 (Below w.heap.size w w') := by
  obtain ⟨K, hk⟩ := Ev.rounds hb
  exact (cfg_Lives.calls K _ 3 exL n exX b W (C_exL h.out) (by decide) hk).mono fun e w' h' => ⟨h'.1, ⟨blk_below h.out h'.2⟩, ⟨Below.then hB.out h'.2⟩⟩
theorem sh_next (w W : World) (h : Aside0 (W.heap[w.heap.size]? = some (.cells #[.int .i64 1, .string ⟨#[120]⟩, .string ⟨#[]⟩, .string ⟨#[]⟩, .string ⟨#[]⟩, .int .i64 1, .int .i64 0, .int .i64 0, .int .i64 6, .string ⟨#[]⟩, .string ⟨#[120]⟩, .string ⟨#[]⟩, .string ⟨#[]⟩, .int .i64 0, .int .i64 0, .int .i64 0, .int .i64 9, .string ⟨#[]⟩, .string ⟨#[]⟩, .string ⟨#[]⟩, .string ⟨#[]⟩, .int .i64 0, .int .i64 0, .int .i64 0] 30 (0, 0)))) (hB : Aside0 (Below w.heap.size w W)) :
    Calls Try.prog 19 #[.slice (some ⟨w.heap.size, 0, none⟩) 3 3, .int .i64 1] W fun e w' => ∃ (A : Option Addr) (c : Nat), e = .returned (.slice A 1 c) ∧ Aside0 (1 ≤ c) ∧ Aside0 (Kd.C (Kd.int .i64) w' A 1 [2]) ∧ Aside0 (Below w.heap.size w w') := by
  refine (cfg_Next.calls _ 3 exL 1 [2] W (C_exL h.out) (by decide) (by rw [Next_eq, ex_N1])).mono ?_
  rintro e w' ⟨v, rfl, hv, hb⟩
  obtain ⟨A, c, rfl, hc, hC⟩ := Kd.R_reads hv
  exact ⟨A, c, rfl, ⟨hc⟩, ⟨hC⟩, ⟨Below.then hB.out hb⟩⟩
set_option maxRecDepth 100000 in
set_option maxHeartbeats 2000000 in
theorem lambrequinlaw20_shown.calls (k : Nat) (r : Bool) (w : World) (h : lambrequinlaw20_shown.f k = some r) :
    Calls Try.prog 17 #[] w fun e w' => e = .returned (.bool r) ∧ Below w.heap.size w w' := by
  cases h
  obtain ⟨K, hi⟩ := Ev.rounds (Ints_ev [2] [2] (by decide))
  have HI := Aside0.mk hi
  clear hi
  have hu := Try.underlying30
  have H0 := Aside0.mk (blk_new w (.cells #[.int .i64 1, .string ⟨#[120]⟩, .string ⟨#[]⟩, .string ⟨#[]⟩, .string ⟨#[]⟩, .int .i64 1, .int .i64 0, .int .i64 0, .int .i64 6, .string ⟨#[]⟩, .string ⟨#[120]⟩, .string ⟨#[]⟩, .string ⟨#[]⟩, .int .i64 0, .int .i64 0, .int .i64 0, .int .i64 9, .string ⟨#[]⟩, .string ⟨#[]⟩, .string ⟨#[]⟩, .string ⟨#[]⟩, .int .i64 0, .int .i64 0, .int .i64 0] 30))
  have B0 := Aside0.mk (below_alloc (Below.refl w.heap.size w) (.cells #[.int .i64 1, .string ⟨#[120]⟩, .string ⟨#[]⟩, .string ⟨#[]⟩, .string ⟨#[]⟩, .int .i64 1, .int .i64 0, .int .i64 0, .int .i64 6, .string ⟨#[]⟩, .string ⟨#[120]⟩, .string ⟨#[]⟩, .string ⟨#[]⟩, .int .i64 0, .int .i64 0, .int .i64 0, .int .i64 9, .string ⟨#[]⟩, .string ⟨#[]⟩, .string ⟨#[]⟩, .string ⟨#[]⟩, .int .i64 0, .int .i64 0, .int .i64 0] 30))
  go_enter Try.func17, Try.ntmps17
  go_wp2_with (first
    | (go_at_call 23; (first | (with_reducible refine (sh_reach 1 true ex_R1 w _ H0 B0).mono ?_) | (with_reducible refine (sh_reach 2 true ex_R2 w _ H0 B0).mono ?_) | (with_reducible refine (sh_reach 0 false ex_R0 w _ H0 B0).mono ?_)); rintro e w1 ⟨rfl, h1, b1⟩; clear H0 B0; have H0 := h1; have B0 := b1; clear h1 b1)
    | (go_at_call 18; (first | (with_reducible refine (sh_live 1 true ex_L1 w _ H0 B0).mono ?_) | (with_reducible refine (sh_live 0 false ex_L0 w _ H0 B0).mono ?_) | (with_reducible refine (sh_live 2 false ex_L2 w _ H0 B0).mono ?_)); rintro e w1 ⟨rfl, h1, b1⟩; clear H0 B0; have H0 := h1; have B0 := b1; clear h1 b1)
    | (go_at_call 19; go_must (refine (sh_next w _ H0 B0).mono ?_); rintro e w1 ⟨A1, c1, rfl, L1, C1, b1⟩; clear H0 B0; have B0 := b1; have B1 := Aside0.mk (below_alloc (Below.refl w1.heap.size w1) (.cells #[.int .i64 2] 3)); have N1 := Aside0.mk (blk_new w1 (.cells #[.int .i64 2] 3)); clear b1)
    | (go_at_call 26; go_must (refine (lambrequinref10_Ints.calls K _ _ [2] _ _ [2] true _ (Kd.C_below C1.out B1.out) L1.out (C_cells N1.out (Kd.reps_scalar [2]) (by decide)) (by decide) HI.out).mono ?_); rintro e w2 ⟨rfl, b2⟩))
  go_ret
  exact ⟨rfl, Below.then B0.out (Below.then B1.out b2.below)⟩
end Go.Proofs.Ytnepgcbgkhikkaa.H

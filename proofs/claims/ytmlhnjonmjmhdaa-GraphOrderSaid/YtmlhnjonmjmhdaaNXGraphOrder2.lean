/- RowGraphOrder of the seat's law GraphOrder: the law holds, under the statement's own conditions. -/
import Derived.Test.YtmlhnjonmjmhdaaNXGraphOrder
import Derived.Test.YtmlhnjonmjmhdaaNXGraphOrder1
import Derived.Test.YtmlhnjonmjmhdaaRows
import Derived.Test.YtmlhnjonmjmhdaaNW
import Derived.WalkKit
import Derived.ProofKit
import Derived.OpenShut
import Derived.ShutString
import Derived.ChangeOld
import Derived.Below
import Derived.SizedLaws
import Derived.Carry
set_option linter.unusedVariables false
set_option linter.unusedSimpArgs false
set_option linter.unusedSectionVars false
namespace Go.Proofs.Ytmlhnjonmjmhdaa.H
open Go.RowKit Go.Proofs.YtmlhnjonmjmhdaaW.PrintWords Go.Proofs.YtmlhnjonmjmhdaaW.PrintLast Go.Proofs.YtmlhnjonmjmhdaaW.PrintMore
attribute [local go_sem] max2_int min2_int max_two min_two max_three min_three max_four min_four
attribute [local go_sem high] eqA27
mutual
def lambrequinlaw10_GraphOrder.l0 : Nat → Int → Int → Bool → Int → List (IPair) → List (IPair) → Int → Option (Bool)
 | 0, _, _, _, _, _, _, _ => none
 | k + 1, x2, x3, x9, x10, x11, x12, x13 => if x13 ≥ 0 then (if 0 ≤ x13 then (if x13 < (x11.length : Int) then ((some (([(⟨(rd_T27 x11 x13).fst, (rd_T27 x11 x13).snd⟩ : IPair), (⟨(rd_T27 x11 x13).fst, (rd_T27 x11 x13).snd⟩ : IPair)] : List (IPair)) : List (IPair))).bind fun y108 => (if x12.length + y108.length < 8796093022208 then (lambrequinlaw10_GraphOrder.l0 k x2 x3 x9 x10 x11 (x12 ++ y108) (wrap64 (x13 - 1))) else (none))) else (none)) else (none)) else ((graph_Clean.f x10 x11).bind fun bt114 => ((graph_Clean.f x10 x12).bind fun bt118 => (if (bt114.1.length : Int) = (bt118.1.length : Int) then (if bt114.2 = 0 then (lambrequinlaw10_GraphOrder.j1 k x2 x3 x9 x10 x11 x12 bt114.1 bt118.1 (bt118.2 != 0)) else (lambrequinlaw10_GraphOrder.j1 k x2 x3 x9 x10 x11 x12 bt114.1 bt118.1 true)) else (lambrequinlaw10_GraphOrder.j1 k x2 x3 x9 x10 x11 x12 bt114.1 bt118.1 true))))
def lambrequinlaw10_GraphOrder.j1 : Nat → Int → Int → Bool → Int → List (IPair) → List (IPair) → List (IPair) → List (IPair) → Bool → Option (Bool)
 | 0, _, _, _, _, _, _, _, _, _ => none
 | k + 1, x2, x3, x9, x10, x11, x12, x14, x16, x70 => if x70 = true then (some false) else (lambrequinlaw10_GraphOrder.l1 k x2 x3 x9 x10 x11 x12 x14 x16 0)
def lambrequinlaw10_GraphOrder.l1 : Nat → Int → Int → Bool → Int → List (IPair) → List (IPair) → List (IPair) → List (IPair) → Int → Option (Bool)
 | 0, _, _, _, _, _, _, _, _, _ => none
 | k + 1, x2, x3, x9, x10, x11, x12, x14, x16, x18 => if x18 < (x14.length : Int) then (if 0 ≤ x18 then (if x18 < (x16.length : Int) then (if (!(((rd_T27 x14 x18).fst) == ((rd_T27 x16 x18).fst)) || (!(((rd_T27 x14 x18).snd) == ((rd_T27 x16 x18).snd)))) = true then (some false) else (if x18 > 0 then (if 0 ≤ (wrap64 (x18 - 1)) then (if (wrap64 (x18 - 1)) < (x14.length : Int) then (if (((rd_T27 x14 x18).fst) == ((rd_T27 x14 (wrap64 (x18 - 1))).fst) && (((rd_T27 x14 x18).snd) == ((rd_T27 x14 (wrap64 (x18 - 1))).snd))) = true then (some false) else (lambrequinlaw10_GraphOrder.l1 k x2 x3 x9 x10 x11 x12 x14 x16 (wrap64 (x18 + 1)))) else (none)) else (none)) else (lambrequinlaw10_GraphOrder.l1 k x2 x3 x9 x10 x11 x12 x14 x16 (wrap64 (x18 + 1))))) else (none)) else (none)) else (if x10 = 0 then (none) else (if x9 = true then ((graph_Parts.f k x10 x11).bind fun t126 => ((graph_Parts.f k x10 x12).bind fun t129 => ((lambrequinref10_Lists.f k t126 t129).bind fun t132 => (if t132 = true then ((graph_Path.f k x10 x11 (Int.tmod (wrap64 (x2)) x10) (Int.tmod (wrap64 (x3)) x10)).bind fun t133 => ((graph_Path.f k x10 x12 (Int.tmod (wrap64 (x2)) x10) (Int.tmod (wrap64 (x3)) x10)).bind fun t136 => ((lambrequinref10_Ints.f k t133 t136).bind fun t139 => (some t139)))) else (some false))))) else (some false)))
end
def lambrequinlaw10_GraphOrder.f (k : Nat) (a0 : Int) (l1 : List (BPair)) (a2 : Int) (a3 : Int) : Option (Bool) := (lambrequinlaw10_shown.f k).bind fun t101 => ((lambrequinlaw10_ends.f k a0 l1).bind fun bt102 => (lambrequinlaw10_GraphOrder.l0 k a2 a3 t101 bt102.1 bt102.2 ([] : List (IPair)) (wrap64 ((bt102.2.length : Int) - 1))))
theorem lambrequinlaw10_GraphOrder.mono_l : ∀ k, (∀ y0 y1 y2 y3 y4 y5 y6, LeO (lambrequinlaw10_GraphOrder.l0 k y0 y1 y2 y3 y4 y5 y6) (lambrequinlaw10_GraphOrder.l0 (k + 1) y0 y1 y2 y3 y4 y5 y6)) ∧ (∀ y0 y1 y2 y3 y4 y5 y6 y7 y8, LeO (lambrequinlaw10_GraphOrder.j1 k y0 y1 y2 y3 y4 y5 y6 y7 y8) (lambrequinlaw10_GraphOrder.j1 (k + 1) y0 y1 y2 y3 y4 y5 y6 y7 y8)) ∧ (∀ y0 y1 y2 y3 y4 y5 y6 y7 y8, LeO (lambrequinlaw10_GraphOrder.l1 k y0 y1 y2 y3 y4 y5 y6 y7 y8) (lambrequinlaw10_GraphOrder.l1 (k + 1) y0 y1 y2 y3 y4 y5 y6 y7 y8))
 | 0 => ⟨fun _ _ _ _ _ _ _ r h => by simp [lambrequinlaw10_GraphOrder.l0] at h, fun _ _ _ _ _ _ _ _ _ r h => by simp [lambrequinlaw10_GraphOrder.j1] at h, fun _ _ _ _ _ _ _ _ _ r h => by simp [lambrequinlaw10_GraphOrder.l1] at h⟩
 | k + 1 => by
  obtain ⟨ih0, ih1, ih2⟩ := lambrequinlaw10_GraphOrder.mono_l k
  refine ⟨?_, ?_, ?_⟩
  ·intro y0 y1 y2 y3 y4 y5 y6
   unfold lambrequinlaw10_GraphOrder.l0
   repeat' first
   | (with_reducible exact ih0 _ _ _ _ _ _ _)
   | (with_reducible exact ih1 _ _ _ _ _ _ _ _ _)
   | (with_reducible exact ih2 _ _ _ _ _ _ _ _ _)
   | (with_reducible exact graph_Parts.mono _ _ _)
   | (with_reducible exact graph_Path.mono _ _ _ _ _)
   | (with_reducible exact lambrequinlaw10_ends.mono _ _ _)
   | (with_reducible exact lambrequinlaw10_shown.mono _)
   | (with_reducible exact lambrequinref10_Ints.mono _ _ _)
   | (with_reducible exact lambrequinref10_Lists.mono _ _ _)
   | (with_reducible exact LeO.refl _)
   | (with_reducible exact LeO.none _)
   | (with_reducible refine LeO.ite ?_ ?_)
   | (with_reducible refine LeO.bind ?_ (fun _ => ?_))
   | exact ih0 _ _ _ _ _ _ _
   | exact ih1 _ _ _ _ _ _ _ _ _
   | exact ih2 _ _ _ _ _ _ _ _ _
   | exact graph_Parts.mono _ _ _
   | exact graph_Path.mono _ _ _ _ _
   | exact lambrequinlaw10_ends.mono _ _ _
   | exact lambrequinlaw10_shown.mono _
   | exact lambrequinref10_Ints.mono _ _ _
   | exact lambrequinref10_Lists.mono _ _ _
   | exact LeO.none _
   | refine LeO.ite ?_ ?_
   | refine LeO.bind ?_ (fun _ => ?_)
  ·intro y0 y1 y2 y3 y4 y5 y6 y7 y8
   unfold lambrequinlaw10_GraphOrder.j1
   repeat' first
   | (with_reducible exact ih0 _ _ _ _ _ _ _)
   | (with_reducible exact ih1 _ _ _ _ _ _ _ _ _)
   | (with_reducible exact ih2 _ _ _ _ _ _ _ _ _)
   | (with_reducible exact graph_Parts.mono _ _ _)
   | (with_reducible exact graph_Path.mono _ _ _ _ _)
   | (with_reducible exact lambrequinlaw10_ends.mono _ _ _)
   | (with_reducible exact lambrequinlaw10_shown.mono _)
   | (with_reducible exact lambrequinref10_Ints.mono _ _ _)
   | (with_reducible exact lambrequinref10_Lists.mono _ _ _)
   | (with_reducible exact LeO.refl _)
   | (with_reducible exact LeO.none _)
   | (with_reducible refine LeO.ite ?_ ?_)
   | (with_reducible refine LeO.bind ?_ (fun _ => ?_))
   | exact ih0 _ _ _ _ _ _ _
   | exact ih1 _ _ _ _ _ _ _ _ _
   | exact ih2 _ _ _ _ _ _ _ _ _
   | exact graph_Parts.mono _ _ _
   | exact graph_Path.mono _ _ _ _ _
   | exact lambrequinlaw10_ends.mono _ _ _
   | exact lambrequinlaw10_shown.mono _
   | exact lambrequinref10_Ints.mono _ _ _
   | exact lambrequinref10_Lists.mono _ _ _
   | exact LeO.none _
   | refine LeO.ite ?_ ?_
   | refine LeO.bind ?_ (fun _ => ?_)
  ·intro y0 y1 y2 y3 y4 y5 y6 y7 y8
   unfold lambrequinlaw10_GraphOrder.l1
   repeat' first
   | (with_reducible exact ih0 _ _ _ _ _ _ _)
   | (with_reducible exact ih1 _ _ _ _ _ _ _ _ _)
   | (with_reducible exact ih2 _ _ _ _ _ _ _ _ _)
   | (with_reducible exact graph_Parts.mono _ _ _)
   | (with_reducible exact graph_Path.mono _ _ _ _ _)
   | (with_reducible exact lambrequinlaw10_ends.mono _ _ _)
   | (with_reducible exact lambrequinlaw10_shown.mono _)
   | (with_reducible exact lambrequinref10_Ints.mono _ _ _)
   | (with_reducible exact lambrequinref10_Lists.mono _ _ _)
   | (with_reducible exact LeO.refl _)
   | (with_reducible exact LeO.none _)
   | (with_reducible refine LeO.ite ?_ ?_)
   | (with_reducible refine LeO.bind ?_ (fun _ => ?_))
   | exact ih0 _ _ _ _ _ _ _
   | exact ih1 _ _ _ _ _ _ _ _ _
   | exact ih2 _ _ _ _ _ _ _ _ _
   | exact graph_Parts.mono _ _ _
   | exact graph_Path.mono _ _ _ _ _
   | exact lambrequinlaw10_ends.mono _ _ _
   | exact lambrequinlaw10_shown.mono _
   | exact lambrequinref10_Ints.mono _ _ _
   | exact lambrequinref10_Lists.mono _ _ _
   | exact LeO.none _
   | refine LeO.ite ?_ ?_
   | refine LeO.bind ?_ (fun _ => ?_)
theorem lambrequinlaw10_GraphOrder.mono : ∀ a0 a1 a2 a3 k, LeO (lambrequinlaw10_GraphOrder.f k a0 a1 a2 a3) (lambrequinlaw10_GraphOrder.f (k + 1) a0 a1 a2 a3) := by
 intro a0 a1 a2 a3 k
 obtain ⟨ih0, ih1, ih2⟩ := lambrequinlaw10_GraphOrder.mono_l k
 unfold lambrequinlaw10_GraphOrder.f
 repeat' first
   | (with_reducible exact ih0 _ _ _ _ _ _ _)
   | (with_reducible exact ih1 _ _ _ _ _ _ _ _ _)
   | (with_reducible exact ih2 _ _ _ _ _ _ _ _ _)
   | (with_reducible exact graph_Parts.mono _ _ _)
   | (with_reducible exact graph_Path.mono _ _ _ _ _)
   | (with_reducible exact lambrequinlaw10_ends.mono _ _ _)
   | (with_reducible exact lambrequinlaw10_shown.mono _)
   | (with_reducible exact lambrequinref10_Ints.mono _ _ _)
   | (with_reducible exact lambrequinref10_Lists.mono _ _ _)
   | (with_reducible exact LeO.refl _)
   | (with_reducible exact LeO.none _)
   | (with_reducible refine LeO.ite ?_ ?_)
   | (with_reducible refine LeO.bind ?_ (fun _ => ?_))
   | exact ih0 _ _ _ _ _ _ _
   | exact ih1 _ _ _ _ _ _ _ _ _
   | exact ih2 _ _ _ _ _ _ _ _ _
   | exact graph_Parts.mono _ _ _
   | exact graph_Path.mono _ _ _ _ _
   | exact lambrequinlaw10_ends.mono _ _ _
   | exact lambrequinlaw10_shown.mono _
   | exact lambrequinref10_Ints.mono _ _ _
   | exact lambrequinref10_Lists.mono _ _ _
   | exact LeO.none _
   | refine LeO.ite ?_ ?_
   | refine LeO.bind ?_ (fun _ => ?_)
def lambrequinlaw10_GraphOrder.T7 : Bool × List (List Nat × List Nat) := (true, [([], []), ([], []), ([], []), ([1, 2], [1, 2]), ([3], [3]), ([], []), ([], []), ([5, 6], [5, 6]), ([7], [7]), ([4, 8], [4, 8]), ([0, 9], [0, 9]), ([10, 10, 0, 1, 2, 3, 4, 5, 6, 7, 8, 9, 10], [0, 10])])
def lambrequinlaw10_GraphOrder.B7 : List Nat := [0, 0, 0, 6, 14, 0, 0, 96, 224, 510, 1023, 2047]
theorem lambrequinlaw10_GraphOrder.tab7 : rtab .any (opsOf Try.f3 7) = lambrequinlaw10_GraphOrder.T7 := by kernel_rfl
theorem lambrequinlaw10_GraphOrder.bits7 : waitsOk lambrequinlaw10_GraphOrder.T7.2 lambrequinlaw10_GraphOrder.B7 = true := by kernel_rfl
def lambrequinlaw10_GraphOrder.T15 : Bool × List (List Nat × List Nat) := (true, [([], []), ([], []), ([0, 1], [0, 1]), ([2], [2]), ([], []), ([], []), ([4, 5], [4, 5]), ([6], [6]), ([3, 7], [3, 7]), ([8], [8]), ([9], [9]), ([10, 9], [9, 10]), ([11, 9, 9], [9, 11]), ([12], [12]), ([12], [12]), ([13, 14, 12], [12, 13, 14]), ([15, 12], [12, 15]), ([12], [12]), ([12], [12]), ([18, 12], [12, 18]), ([17, 19, 12], [12, 17, 19]), ([20, 12], [12, 20]), ([16, 21, 12], [12, 16, 21]), ([12, 22, 9], [9, 12, 22]), ([9, 23], [9, 23])])
def lambrequinlaw10_GraphOrder.B15 : List Nat := [0, 0, 3, 7, 0, 0, 48, 112, 255, 511, 1023, 2047, 4095, 8191, 8191, 32767, 65535, 8191, 8191, 270335, 925695, 1974271, 4194303, 8388607, 16777215]
theorem lambrequinlaw10_GraphOrder.tab15 : rtab .any (opsOf Try.f3 15) = lambrequinlaw10_GraphOrder.T15 := by kernel_rfl
theorem lambrequinlaw10_GraphOrder.bits15 : waitsOk lambrequinlaw10_GraphOrder.T15.2 lambrequinlaw10_GraphOrder.B15 = true := by kernel_rfl
set_option maxHeartbeats 8000000 in
set_option maxRecDepth 100000 in
theorem lambrequinlaw10_GraphOrder.calls (k : Nat) (a0 : Int) (A1 : Option Addr) (c1 : Nat) (l1 : List (BPair)) (a2 : Int) (a3 : Int) (r : Bool) (w : World) (hr1 : Kd.C k45 w A1 l1.length l1) (hc1 : l1.length ≤ c1) (h : lambrequinlaw10_GraphOrder.f k a0 l1 a2 a3 = some r) :
  Calls Try.prog 3 #[.int .u8 a0, .slice A1 l1.length c1, .int .u8 a2, .int .u8 a3] w fun e w' => e = .returned (.bool r) ∧ Below w.heap.size w w' := by
 have hu27 := Try.underlying27
 have HR1 := am hr1
 have HC1 := am hc1
 clear hr1 hc1
 have HB := am (Below.refl w.heap.size w)
 have H : ((lambrequinlaw10_shown.f k).bind fun t101 => ((lambrequinlaw10_ends.f k a0 l1).bind fun bt102 => (lambrequinlaw10_GraphOrder.l0 k a2 a3 t101 bt102.1 bt102.2 ([] : List (IPair)) (wrap64 ((bt102.2.length : Int) - 1))))) = some r := h
 clear h
 replace H := Option.bind_eq_some_iff.mp H
 obtain ⟨t101, A50, H⟩ := H
 replace H : ((lambrequinlaw10_ends.f k a0 l1).bind fun bt102 => (lambrequinlaw10_GraphOrder.l0 k a2 a3 t101 bt102.1 bt102.2 ([] : List (IPair)) (wrap64 ((bt102.2.length : Int) - 1)))) = some r := H
 have A5 := am A50
 clear A50
 replace H := Option.bind_eq_some_iff.mp H
 obtain ⟨⟨t102, t103⟩, A60, H⟩ := H
 replace H : (lambrequinlaw10_GraphOrder.l0 k a2 a3 t101 t102 t103 ([] : List (IPair)) (wrap64 ((t103.length : Int) - 1))) = some r := H
 have A6 := am A60
 clear A60
 have H' := am H
 clear H
 go_enter Try.func3, Try.ntmps3
 go_wp2_with (first | ((with_reducible refine gate_callee (f := 14) rfl ?_); refine goesL_ (some 21) rfl rfl Try.func14 (by kernel_rfl) rfl #[] rfl (by (try simp only [List.map_toArray, List.map_cons, List.map_nil]); first | done | rfl | (simp only [List.length_drop, List.length_take]; rfl)) ?_; (with_reducible refine (lambrequinlaw10_shown.calls k  t101 _ A5.out).mono ?_); rintro e w7 ⟨rfl, hb⟩; refine ⟨_, rfl, ?_⟩; replace HB := am (below_step (by repeat (first | (with_reducible first | exact HB.out | apply lA | apply lN | apply lD) | exact HB.out)) hb); (try clear hb); (try clear hb2); (try clear hk); (try clear hi)) | ((with_reducible refine gate_callee (f := 15) rfl ?_); refine goesL_ (some 25) rfl rfl Try.func15 (by kernel_rfl) rfl #[.int .u8 a0, .slice A1 l1.length c1] rfl (by (try simp only [List.map_toArray, List.map_cons, List.map_nil]); first | done | rfl | (simp only [List.length_drop, List.length_take]; rfl)) ?_; (with_reducible refine (lambrequinlaw10_ends.calls k a0 _ _ l1 t102 t103 _ ?side1 ?side2 A6.out).mono ?_); (case side1 => repeat (first | exact (Kd.C_below HR1.out HB.out) | (with_reducible refine Kd.C_alloc ?_ _) | (with_reducible refine Kd.C_drewN ?_ _) | (with_reducible refine Kd.C_drew ?_))); (case side2 => exact HC1.out); rintro e w8 ⟨v104, rfl, ho0, hb⟩; refine ⟨_, rfl, ?_⟩; have HO105 := am (Kd.R_lower ho0 (below_size (by repeat (first | (with_reducible first | exact HB.out | apply lA | apply lN | apply lD) | exact HB.out)))); replace HB := am (below_step (by repeat (first | (with_reducible first | exact HB.out | apply lA | apply lN | apply lD) | exact HB.out)) hb); (try clear hb); (try clear hb2); (try clear hk); (try clear hi); (try clear ho0); obtain ⟨Ao9, co9, eo9⟩ := Kd.R_slice HO105.out; subst eo9))
 go_loopg [12, 13] k (fun kq v12 v13 w' => ∃ (x12_1 : List (IPair)) (x13_1 : Int), v13 = .int .i64 x13_1 ∧ Aside0 (lambrequinlaw10_GraphOrder.l0 kq a2 a3 t101 t102 t103 x12_1 x13_1 = some r) ∧ Aside0 (kq ≤ k) ∧ Aside0 (Kd.R k27 27 w' w.heap.size (fun k_ => some k_ ≠ (v12 : Value).ownBlock) (.slice Ao9 t103.length co9) t103) ∧ Aside0 (Kd.R k27 27 w' w.heap.size (fun k_ => some k_ ≠ ((.slice Ao9 t103.length co9) : Value).ownBlock) v12 x12_1) ∧ Aside0 (Below w.heap.size w w'))
 case atStart => exact ⟨(([] : List (IPair))), (wrap64 ((t103.length : Int) - 1)), (by first | rfl | (simp; done) | (simp [*]; done)), H', ⟨Nat.le_refl _⟩, ⟨by (with_reducible repeat (first | apply Ra | apply Rn | apply Rd)); exact Kd.R_mono HO105.out (fun _ hk => (by simp [Value.ownBlock]))⟩, ⟨by first | exact Kd.R_nil _ _ _ _ _ | exact Kd.N_nil _ _ _ _ _ | exact Kd.V_nil _ _ _ _ _ | exact Kd.Q_nil _ _ _ _ _ | exact Kd.S_nil _ _ _ _ _⟩, ⟨by repeat (first | (with_reducible first | exact HB.out | apply lA | apply lN | apply lD) | exact HB.out)⟩⟩
 case round =>
  clear H'
  try clear c1
  try clear p2
  try clear c3
  try clear p6
  obtain ⟨x12_1, x13_1, rfl, HA, HK1, HO_11, HO_12, HB⟩ := hrel
  cases gk with
  | zero => exact absurd HA.out (by simp [lambrequinlaw10_GraphOrder.l0])
  | succ k1 =>
   have H := HA.out
   clear HA
   simp only [lambrequinlaw10_GraphOrder.l0] at H
   by_cases c10 : x13_1 ≥ 0
   ·rw [if_pos c10] at H
    have c10b0 : decide (0 ≤ x13_1) = true := decide_eq_true c10
    clear c10
    by_cases c11 : 0 ≤ x13_1
    ·rw [if_pos c11] at H
     have c11b0 : decide (0 ≤ x13_1) = true := decide_eq_true c11
     clear c11
     by_cases c12 : x13_1 < (t103.length : Int)
     ·rw [if_pos c12] at H
      have c12b0 : decide (x13_1 < (t103.length : Int)) = true := decide_eq_true c12
      clear c12
      obtain ⟨y108, hy108⟩ : ∃ y_ : List (IPair), y_ = (([(⟨(rd_T27 t103 x13_1).fst, (rd_T27 t103 x13_1).snd⟩ : IPair), (⟨(rd_T27 t103 x13_1).fst, (rd_T27 t103 x13_1).snd⟩ : IPair)] : List (IPair))) := ⟨_, rfl⟩
      replace H : (if x12_1.length + y108.length < 8796093022208 then (lambrequinlaw10_GraphOrder.l0 k1 a2 a3 t101 t102 t103 (x12_1 ++ y108) (wrap64 (x13_1 - 1))) else (none)) = some r := by first | (rw [hy108]; with_reducible exact H) | (have H2_ := (Option.bind_some _ _).symm.trans H; rw [hy108]; with_reducible exact H2_) | (have H2_ := (Option.bind_some _ _).symm.trans H; with_reducible exact H2_) | with_reducible exact H | (rw [hy108]; exact H) | exact H
      have Ny108 := am hy108
      clear hy108
      by_cases c13 : x12_1.length + y108.length < 8796093022208
      ·rw [if_pos c13] at H
       have LMc13 := am c13
       clear c13
       obtain ⟨y111, hy111⟩ : ∃ y_ : List (IPair), y_ = (x12_1 ++ y108) := ⟨_, rfl⟩
       replace H : (lambrequinlaw10_GraphOrder.l0 k1 a2 a3 t101 t102 t103 y111 (wrap64 (x13_1 - 1))) = some r := by first | (rw [hy111]; with_reducible exact H) | (have H2_ := (Option.bind_some _ _).symm.trans H; rw [hy111]; with_reducible exact H2_) | (have H2_ := (Option.bind_some _ _).symm.trans H; with_reducible exact H2_) | with_reducible exact H | (rw [hy111]; exact H) | exact H
       have Ny111 := am hy111
       clear hy111
       have H' := am H
       clear H
       (try (obtain ⟨_, _, eo_⟩ := Kd.R_slice HO_11.out; subst eo_))
       try go_wp2
       replace HO_11 := am (Kd.R_drew HO_11.out)
       replace HO_12 := am (Kd.R_drew HO_12.out)
       replace HB := am (below_drew1 HB.out)
       have p106 : 0 ≤ (x13_1 : Int) := of_decide_eq_true (by first | (with_reducible assumption) | assumption)
       have q106 : x13_1 < (t103.length : Int) := of_decide_eq_true (by first | (with_reducible assumption) | assumption)
       obtain ⟨ad106, e106, hx106_0, hx106_1⟩ := at_T27 (Kd.R_reads' HO_11.out).2.2 x13_1 p106 q106
       cases e106
       replace p106 := eq_true p106
       replace q106 := eq_true q106
       have p107 : 0 ≤ (x13_1 : Int) := of_decide_eq_true (by first | (with_reducible assumption) | assumption)
       have q107 : x13_1 < (t103.length : Int) := of_decide_eq_true (by first | (with_reducible assumption) | assumption)
       obtain ⟨ad107, e107, hx107_0, hx107_1⟩ := at_T27 (Kd.R_reads' HO_11.out).2.2 x13_1 p107 q107
       obtain rfl : ad106 = ad107 := (by injection e107)
       replace p107 := eq_true p107
       replace q107 := eq_true q107
       refine start_ (n := 12) (S := fun w' => w'.cell? (ad106.add ((x13_1).toNat * 2)) = some (.int .i64 ((rd_T27 t103 x13_1).fst)) ∧ w'.cell? ⟨(ad106.add ((x13_1).toNat * 2)).block, (ad106.add ((x13_1).toNat * 2)).off + 1, none⟩ = some (.int .i64 ((rd_T27 t103 x13_1).snd)) ∧ w'.cell? (ad106.add ((x13_1).toNat * 2)) = some (.int .i64 ((rd_T27 t103 x13_1).fst)) ∧ w'.cell? ⟨(ad106.add ((x13_1).toNat * 2)).block, (ad106.add ((x13_1).toNat * 2)).off + 1, none⟩ = some (.int .i64 ((rd_T27 t103 x13_1).snd))) (ds := [10]) (bl 12 0) (by kernel_rfl) rfl rfl ⟨hx106_0, hx106_1, hx107_0, hx107_1⟩ (fun hHeld => ?_); refine with_tabW lambrequinlaw10_GraphOrder.tab7 lambrequinlaw10_GraphOrder.bits7 (fun HT_ HW_ => ?_)
       generalize wr.drew = w14 at HO_11 HO_12 HB hx106_0 hx106_1 hx107_0 hx107_1 hHeld ⊢
       refine pure_ (i := 0) (N := some 35) (v := ?_) (a' := ?_) (bl 12 1) rfl rfl (any_of HT_.out (by kernel_rfl)) (fun _ _ _ h => h) (Or.inl ⟨by rfl, ?_⟩) ?_ ?_
       rotate_left
       ·intro w'
        go_simp
        with_reducible rfl
       rotate_left
       ·simp only [Act.put, sA, sZ, sS, i64_w, i32_w]
        rfl
       refine pure_ (i := 1) (N := some 36) (v := ?_) (a' := ?_) (bl 12 3) rfl rfl (any_of HT_.out (by kernel_rfl)) (fun _ _ _ h => h) (Or.inl ⟨by rfl, ?_⟩) ?_ ?_
       rotate_left
       ·intro w'
        go_simp
        with_reducible rfl
       rotate_left
       ·simp only [Act.put, sA, sZ, sS, i64_w, i32_w]
        rfl
       refine pure_ (i := 2) (N := some 37) (v := ?_) (a' := ?_) (bl 12 7) rfl rfl (any_of HT_.out (by kernel_rfl)) (fun _ _ _ h => h) (Or.inl ⟨by rfl, ?_⟩) ?_ ?_
       rotate_left
       ·intro w'
        go_simp
        with_reducible rfl
       rotate_left
       ·simp only [Act.put, sA, sZ, sS, i64_w, i32_w]
        rfl
       refine pure_ (i := 3) (N := some 38) (v := ?_) (a' := ?_) (bl 12 15) rfl rfl (any_of HT_.out (by kernel_rfl)) (fun _ _ _ h => h) (Or.inl ⟨by rfl, ?_⟩) ?_ ?_
       rotate_left
       ·intro w'
        go_simp
        with_reducible rfl
       rotate_left
       ·simp only [Act.put, sA, sZ, sS, i64_w, i32_w]
        rfl
       refine pure_ (i := 5) (N := some 40) (v := ?_) (a' := ?_) (bl 12 47) rfl rfl (any_of HT_.out (by kernel_rfl)) (fun _ _ _ h => h) (Or.inl ⟨by rfl, ?_⟩) ?_ ?_
       rotate_left
       ·intro w'
        go_simp
        with_reducible rfl
       rotate_left
       ·simp only [Act.put, sA, sZ, sS, i64_w, i32_w]
        rfl
       refine pure_ (i := 6) (N := some 41) (v := ?_) (a' := ?_) (bl 12 111) rfl rfl (any_of HT_.out (by kernel_rfl)) (fun _ _ _ h => h) (Or.inl ⟨by rfl, ?_⟩) ?_ ?_
       rotate_left
       ·intro w'
        go_simp
        with_reducible rfl
       rotate_left
       ·simp only [Act.put, sA, sZ, sS, i64_w, i32_w]
        rfl
       refine pure_ (i := 7) (N := some 42) (v := ?_) (a' := ?_) (bl 12 239) rfl rfl (any_of HT_.out (by kernel_rfl)) (fun _ _ _ h => h) (Or.inl ⟨by rfl, ?_⟩) ?_ ?_
       rotate_left
       ·intro w'
        go_simp
        with_reducible rfl
       rotate_left
       ·simp only [Act.put, sA, sZ, sS, i64_w, i32_w]
        rfl
       refine take_ (i := 4) (N := some 39) (v := ?_) (a' := ?_) (bl 12 255) rfl rfl (take_ofW HT_.out HW_.out (by kernel_rfl)) (fun _ _ _ h => h) (Or.inl ⟨by rfl, ?_⟩) hHeld ?_ ?_
       rotate_left
       ·rintro w' ⟨s0, s1, s2, s3⟩
        go_simp
        with_reducible rfl
       rotate_left
       ·simp only [Act.put, sA, sZ, sS, i64_w, i32_w]
        rfl
       refine take_ (i := 8) (N := some 43) (v := ?_) (a' := ?_) (bl 12 511) rfl rfl (take_ofW HT_.out HW_.out (by kernel_rfl)) (fun _ _ _ h => h) (Or.inl ⟨by rfl, ?_⟩) hHeld ?_ ?_
       rotate_left
       ·rintro w' ⟨s0, s1, s2, s3⟩
        go_simp
        with_reducible rfl
       rotate_left
       ·simp only [Act.put, sA, sZ, sS, i64_w, i32_w]
        rfl
       refine one_ (i := 9) (N := some 44) (bl 12 1023) rfl rfl (one_of HT_.out (by kernel_rfl)) (by decide) (fun K hK => ?_)
       refine Kd.R_lit_step k27 _ 27 ?hg (N := 44) ?hd (xs := ([(⟨(rd_T27 t103 x13_1).fst, (rd_T27 t103 x13_1).snd⟩ : IPair), (⟨(rd_T27 t103 x13_1).fst, (rd_T27 t103 x13_1).snd⟩ : IPair)] : List (IPair))) (inner := [.int .i64 ((rd_T27 t103 x13_1).fst), .int .i64 ((rd_T27 t103 x13_1).snd), .int .i64 ((rd_T27 t103 x13_1).fst), .int .i64 ((rd_T27 t103 x13_1).snd)]) (ok := fun _ => True) (okp := fun _ => True) ?hr ?hp (fun _ hk => hk) trivial (Below.refl _ _) (Nat.le_refl _) (by simp) ?_; (case hd => rfl); (case hg => rfl); (case hr => first | (go_simp; done) | (go_simp; rfl)); (case hp => exact (Reps.c2 (show Kd.M k27 _ _ _ (⟨(rd_T27 t103 x13_1).fst, (rd_T27 t103 x13_1).snd⟩ : IPair) [.int .i64 ((rd_T27 t103 x13_1).fst), .int .i64 ((rd_T27 t103 x13_1).snd)] from (k27_mkM _ _ _ (⟨(rd_T27 t103 x13_1).fst, (rd_T27 t103 x13_1).snd⟩ : IPair) )) (Reps.c2 (show Kd.M k27 _ _ _ (⟨(rd_T27 t103 x13_1).fst, (rd_T27 t103 x13_1).snd⟩ : IPair) [.int .i64 ((rd_T27 t103 x13_1).fst), .int .i64 ((rd_T27 t103 x13_1).snd)] from (k27_mkM _ _ _ (⟨(rd_T27 t103 x13_1).fst, (rd_T27 t103 x13_1).snd⟩ : IPair) )) (Reps.none _ _))))
       intro v109 w15 ho16 hb hg_ hnew_
       have HS0_ := (hb.cell (blt_ (hHeld.1))).trans (hHeld.1)
       have HS1_ := (hb.cell (blt_ (hHeld.2.1))).trans (hHeld.2.1)
       have HS2_ := (hb.cell (blt_ (hHeld.2.2.1))).trans (hHeld.2.2.1)
       have HS3_ := (hb.cell (blt_ (hHeld.2.2.2))).trans (hHeld.2.2.2)
       clear hg_ hnew_
       (first | rw [← Ny108.out] at ho16 | (simp only [Int.reduceToNat] at ho16; rw [← Ny108.out] at ho16))
       have HO110 := am (Kd.R_lower (Kd.R_new' (Kd.R_new' ho16 (Kd.R_lt (by (with_reducible repeat (first | apply Ra | apply Rn | apply Rd)); exact HO_11.out))) (Kd.R_lt (by (with_reducible repeat (first | apply Ra | apply Rn | apply Rd)); exact HO_12.out))) (below_size (by repeat (first | (with_reducible first | exact HB.out | apply lA | apply lN | apply lD) | exact HB.out))))
       replace HO_11 := am (Kd.R_elder' (by (with_reducible repeat (first | apply Ra | apply Rn | apply Rd)); exact HO_11.out) (Kd.R_base ho16) hb)
       replace HO_12 := am (Kd.R_elder' (by (with_reducible repeat (first | apply Ra | apply Rn | apply Rd)); exact HO_12.out) (Kd.R_base ho16) hb)
       replace HB := am (below_step (by repeat (first | (with_reducible first | exact HB.out | apply lA | apply lN | apply lD) | exact HB.out)) hb)
       clear hb ho16
       obtain ⟨Ao18, co18, eo18⟩ := Kd.R_slice HO110.out
       (first | subst eo18 | (injection eo18 with f1_ f2_ f3_; have f4_ := f1_.symm; have f5_ := f3_.symm; clear f1_ f2_ f3_; subst f4_; subst f5_))
       refine hK.out _ _ ⟨HS0_, HS1_, HS2_, HS3_⟩ (fun hHeld => ?_)
       clear hK K
       refine norm_ (a' := ?_) ?_ ?_
       rotate_left
       ·show Act.put _ (some 44) _ = _
        simp only [Act.put, sA, sZ, sS, i64_w, i32_w]
        rfl
       refine last_ (i := 10) (N := some 45) (bl 12 2047) rfl rfl (one_of HT_.out (by kernel_rfl)) (by decide) (fun K hK => ?_)
       refine Kd.R_append_rows_step k27 (w0 := w) w.heap.size (by rfl) (.tmp 35) (.tmp 44) 24 27 (.agg #[(.int .i64 0), (.int .i64 0)]) 16 rfl Try.underlying24 info27 rfl (by decide) (by omega) u12 x12_1 y108 _ _ _ (fun k_ => some k_ ≠ (.slice (some ad106) t103.length co9 : Value).ownBlock ∧ some k_ ≠ (.slice Ao18 y108.length co18 : Value).ownBlock) (fun _ => False) rfl rfl ?aO ?aR (fun _ _ h => h) (fun _ h => h.elim) ?aF ?aB ?aS ?aL ?_
       (case aR => repeat (first | exact (Kd.R_reads' HO110.out).2.2 | (with_reducible refine Kd.C_alloc ?_ _) | (with_reducible refine Kd.C_drewN ?_ _) | (with_reducible refine Kd.C_drew ?_)))
       (case aB => exact (by repeat (first | (with_reducible first | exact HB.out | apply lA | apply lN | apply lD) | exact HB.out)))
       (case aF => exact (fun k_ hk => ⟨Kd.fresh' (Kd.R_lt (by (with_reducible repeat (first | apply Ra | apply Rn | apply Rd)); exact HO_11.out)) k_ hk, Kd.fresh' (Kd.R_lt (by (with_reducible repeat (first | apply Ra | apply Rn | apply Rd)); exact HO110.out)) k_ hk⟩))
       (case aO => exact (by (with_reducible repeat (first | apply Ra | apply Rn | apply Rd)); exact HO_12.out))
       (case aS => exact (below_size (by repeat (first | (with_reducible first | exact HB.out | apply lA | apply lN | apply lD) | exact HB.out))))
       (case aL => have := LMc13.out; omega)
       intro v112 w17 ho hb hg hat
       rw [← Ny111.out] at ho
       replace HO_11 := am (Kd.R_after (ok := (fun k_ => some k_ ≠ (.slice Ao18 y108.length co18 : Value).ownBlock)) (by (with_reducible repeat (first | apply Ra | apply Rn | apply Rd)); exact Kd.R_mono HO_11.out (fun _ hk => ⟨hk.2, hk.1⟩)) hg hat)
       replace HO110 := am (Kd.R_after (ok := (fun k_ => some k_ ≠ (.slice (some ad106) t103.length co9 : Value).ownBlock)) (by (with_reducible repeat (first | apply Ra | apply Rn | apply Rd)); exact Kd.R_mono HO110.out (fun _ hk => ⟨hk.1.2, hk.2⟩)) hg hat)
       replace HB := am (hb)
       have HO113 := am (ho)
       clear HO_12
       clear ho hb hg hat
       refine hK.out _ _ ?_
       clear hK K
       refine norm_ (a' := ?_) ?_ ?_
       rotate_left
       ·show Act.put _ (some 45) _ = _
        simp only [Act.put, sA, sZ, sS, i64_w, i32_w]
        rfl
       refine pure_ (i := 11) (N := some 12) (v := ?_) (a' := ?_) (bl 12 4095) rfl rfl (any_of HT_.out (by kernel_rfl)) (fun _ _ _ h => h) (Or.inl ⟨by rfl, ?_⟩) ?_ ?_
       rotate_left
       ·intro w'
        go_simp
        with_reducible rfl
       rotate_left
       ·simp only [Act.put, sA, sZ, sS, i64_w, i32_w]
        rfl
       refine done_ (done_of HT_.out (by kernel_rfl)) ?_
       try go_wp2
       go_roundg k1
       case measure => have := HK1.out; omega
       case rel => exact ⟨(y111), (wrap64 (x13_1 - 1)), (by first | rfl | (simp; done) | (simp [*]; done)), H', ⟨by have := HK1.out; omega⟩, ⟨by (with_reducible repeat (first | apply Ra | apply Rn | apply Rd)); exact Kd.R_mono HO_11.out (fun _ hk => hk.2)⟩, ⟨by (with_reducible repeat (first | apply Ra | apply Rn | apply Rd)); exact Kd.R_mono HO113.out (fun _ hk => hk.1)⟩, ⟨by repeat (first | (with_reducible first | exact HB.out | apply lA | apply lN | apply lD) | exact HB.out)⟩⟩
      ·rw [if_neg c13] at H
       exact absurd H (by simp)
     ·rw [if_neg c12] at H
      exact absurd H (by simp)
    ·rw [if_neg c11] at H
     exact absurd H (by simp)
   ·rw [if_neg c10] at H
    have c10b0 : decide (0 ≤ x13_1) = false := decide_eq_false c10
    clear c10
    replace H := Option.bind_eq_some_iff.mp H
    obtain ⟨⟨t114, t115⟩, A190, H⟩ := H
    replace H : ((graph_Clean.f t102 x12_1).bind fun bt118 => (if (t114.length : Int) = (bt118.1.length : Int) then (if t115 = 0 then (lambrequinlaw10_GraphOrder.j1 k1 a2 a3 t101 t102 t103 x12_1 t114 bt118.1 (bt118.2 != 0)) else (lambrequinlaw10_GraphOrder.j1 k1 a2 a3 t101 t102 t103 x12_1 t114 bt118.1 true)) else (lambrequinlaw10_GraphOrder.j1 k1 a2 a3 t101 t102 t103 x12_1 t114 bt118.1 true))) = some r := H
    have A19 := am A190
    clear A190
    replace H := Option.bind_eq_some_iff.mp H
    obtain ⟨⟨t118, t119⟩, A200, H⟩ := H
    replace H : (if (t114.length : Int) = (t118.length : Int) then (if t115 = 0 then (lambrequinlaw10_GraphOrder.j1 k1 a2 a3 t101 t102 t103 x12_1 t114 t118 (t119 != 0)) else (lambrequinlaw10_GraphOrder.j1 k1 a2 a3 t101 t102 t103 x12_1 t114 t118 true)) else (lambrequinlaw10_GraphOrder.j1 k1 a2 a3 t101 t102 t103 x12_1 t114 t118 true)) = some r := H
    have A20 := am A200
    clear A200
    have HC21 := am H
    clear H
    go_upto_region 10 with (first | ((with_reducible refine gate_callee (f := 16) rfl ?_); refine goesL_ (some 49) rfl rfl Try.func16 (by kernel_rfl) rfl #[.int .i64 t102, .slice Ao9 t103.length co9] rfl (by (try simp only [List.map_toArray, List.map_cons, List.map_nil]); first | done | rfl | (simp only [List.length_drop, List.length_take]; rfl)) ?_; (with_reducible refine (graph_Clean.calls t102 _ _ t103 t114 t115 _ ?side1 ?side2 A19.out).mono ?_); (case side1 => repeat (first | exact (Kd.R_reads' HO_11.out).2.2 | (with_reducible refine Kd.C_alloc ?_ _) | (with_reducible refine Kd.C_drewN ?_ _) | (with_reducible refine Kd.C_drew ?_))); (case side2 => exact (Kd.R_reads' HO_11.out).2.1); rintro e w22 ⟨v116, rfl, ho0, hb⟩; refine ⟨_, rfl, ?_⟩; have HO117 := am (Kd.R_lower (Kd.R_new' (Kd.R_new' ho0 (Kd.R_lt (by (with_reducible repeat (first | apply Ra | apply Rn | apply Rd)); exact HO_11.out))) (Kd.R_lt (by (with_reducible repeat (first | apply Ra | apply Rn | apply Rd)); exact HO_12.out))) (below_size (by repeat (first | (with_reducible first | exact HB.out | apply lA | apply lN | apply lD) | exact HB.out)))); replace HO_11 := am (Kd.R_elder' (by (with_reducible repeat (first | apply Ra | apply Rn | apply Rd)); exact HO_11.out) (Kd.R_base ho0) hb); replace HO_12 := am (Kd.R_elder' (by (with_reducible repeat (first | apply Ra | apply Rn | apply Rd)); exact HO_12.out) (Kd.R_base ho0) hb); replace HB := am (below_step (by repeat (first | (with_reducible first | exact HB.out | apply lA | apply lN | apply lD) | exact HB.out)) hb); (try clear hb); (try clear hb2); (try clear hk); (try clear hi); (try clear ho0); obtain ⟨Ao23, co23, eo23⟩ := Kd.R_slice HO_12.out; subst eo23) | ((with_reducible refine gate_callee (f := 16) rfl ?_); refine goesL_ (some 55) rfl rfl Try.func16 (by kernel_rfl) rfl #[.int .i64 t102, .slice Ao23 x12_1.length co23] rfl (by (try simp only [List.map_toArray, List.map_cons, List.map_nil]); first | done | rfl | (simp only [List.length_drop, List.length_take]; rfl)) ?_; (with_reducible refine (graph_Clean.calls t102 _ _ x12_1 t118 t119 _ ?side1 ?side2 A20.out).mono ?_); (case side1 => repeat (first | exact (Kd.R_reads' HO_12.out).2.2 | (with_reducible refine Kd.C_alloc ?_ _) | (with_reducible refine Kd.C_drewN ?_ _) | (with_reducible refine Kd.C_drew ?_))); (case side2 => exact (Kd.R_reads' HO_12.out).2.1); rintro e w24 ⟨v120, rfl, ho0, hb⟩; refine ⟨_, rfl, ?_⟩; have HO121 := am (Kd.R_lower (Kd.R_new' (Kd.R_new' (Kd.R_new' ho0 (Kd.R_lt (by (with_reducible repeat (first | apply Ra | apply Rn | apply Rd)); exact HO_11.out))) (Kd.R_lt (by (with_reducible repeat (first | apply Ra | apply Rn | apply Rd)); exact HO_12.out))) (Kd.R_lt (by (with_reducible repeat (first | apply Ra | apply Rn | apply Rd)); exact HO117.out))) (below_size (by repeat (first | (with_reducible first | exact HB.out | apply lA | apply lN | apply lD) | exact HB.out)))); replace HO_11 := am (Kd.R_elder' (by (with_reducible repeat (first | apply Ra | apply Rn | apply Rd)); exact HO_11.out) (Kd.R_base ho0) hb); replace HO_12 := am (Kd.R_elder' (by (with_reducible repeat (first | apply Ra | apply Rn | apply Rd)); exact HO_12.out) (Kd.R_base ho0) hb); replace HO117 := am (Kd.R_elder' (by (with_reducible repeat (first | apply Ra | apply Rn | apply Rd)); exact HO117.out) (Kd.R_base ho0) hb); replace HB := am (below_step (by repeat (first | (with_reducible first | exact HB.out | apply lA | apply lN | apply lD) | exact HB.out)) hb); (try clear hb); (try clear hb2); (try clear hk); (try clear hi); (try clear ho0)))
    (try simp only [Act.put, List.setIfInBounds_toArray, List.set_cons_zero, List.set_cons_succ])
    go_cut [70] (fun v70 wc => ∃ (kq : Nat) (x70_20 : Bool), v70 = .bool x70_20 ∧ Aside0 (lambrequinlaw10_GraphOrder.j1 kq a2 a3 t101 t102 t103 x12_1 t114 t118 x70_20 = some r) ∧ Aside0 (kq ≤ k1) ∧ Aside0 (Kd.R k27 27 wc w.heap.size (fun k_ => some k_ ≠ ((.slice Ao23 x12_1.length co23) : Value).ownBlock ∧ some k_ ≠ (v116 : Value).ownBlock ∧ some k_ ≠ (v120 : Value).ownBlock) (.slice Ao9 t103.length co9) t103) ∧ Aside0 (Kd.R k27 27 wc w.heap.size (fun k_ => some k_ ≠ ((.slice Ao9 t103.length co9) : Value).ownBlock ∧ some k_ ≠ (v116 : Value).ownBlock ∧ some k_ ≠ (v120 : Value).ownBlock) (.slice Ao23 x12_1.length co23) x12_1) ∧ Aside0 (Kd.R k27 27 wc w.heap.size (fun k_ => some k_ ≠ ((.slice Ao9 t103.length co9) : Value).ownBlock ∧ some k_ ≠ ((.slice Ao23 x12_1.length co23) : Value).ownBlock ∧ some k_ ≠ (v120 : Value).ownBlock) v116 t114) ∧ Aside0 (Kd.R k27 27 wc w.heap.size (fun k_ => some k_ ≠ ((.slice Ao9 t103.length co9) : Value).ownBlock ∧ some k_ ≠ ((.slice Ao23 x12_1.length co23) : Value).ownBlock ∧ some k_ ≠ (v116 : Value).ownBlock) v120 t118) ∧ Aside0 (Below w.heap.size w wc))
    case first =>
     have H := HC21.out
     clear HC21
     by_cases c25 : (t114.length : Int) = (t118.length : Int)
     ·rw [if_pos c25] at H
      have c25b0 : ((t114.length : Int) == (t118.length : Int)) = true := beq_iff_eq.mpr c25
      have c25b1 : ((t114.length : Int) != (t118.length : Int)) = false := bne_eq_false_iff_eq.mpr c25
      have c25b2 : (t114.length == t118.length) = true := by first | simpa using c25 | (simp at c25 ⊢; omega)
      clear c25
      (first | rw [c25b0] | (simp only [i64_w, i32_w]; rw [c25b0]) | skip)
      by_cases c26 : t115 = 0
      ·rw [if_pos c26] at H
       have c26b0 : (t115 == 0) = true := beq_iff_eq.mpr c26
       have c26b1 : (t115 != 0) = false := bne_eq_false_iff_eq.mpr c26
       clear c26
       have H' := am H
       clear H
       obtain ⟨Ao27, co27, eo27⟩ := Kd.R_slice HO117.out
       (first | subst eo27 | (injection eo27 with f1_ f2_ f3_; have f4_ := f1_.symm; have f5_ := f3_.symm; clear f1_ f2_ f3_; subst f4_; subst f5_))
       obtain ⟨Ao28, co28, eo28⟩ := Kd.R_slice HO121.out
       (first | subst eo28 | (injection eo28 with f1_ f2_ f3_; have f4_ := f1_.symm; have f5_ := f3_.symm; clear f1_ f2_ f3_; subst f4_; subst f5_))
       go_wp2
       go_meet
       case rel => exact ⟨_, ((t119 != 0)), (by first | rfl | (simp; done) | (simp [*]; done)), H', ⟨by have := HK1.out; first | omega | exact Nat.le_refl _⟩, ⟨by (with_reducible repeat (first | apply Ra | apply Rn | apply Rd)); exact Kd.R_mono HO_11.out (fun _ hk => ⟨hk.1.1, ⟨hk.1.2, hk.2⟩⟩)⟩, ⟨by (with_reducible repeat (first | apply Ra | apply Rn | apply Rd)); exact Kd.R_mono HO_12.out (fun _ hk => ⟨hk.1.1, ⟨hk.1.2, hk.2⟩⟩)⟩, ⟨by (with_reducible repeat (first | apply Ra | apply Rn | apply Rd)); exact Kd.R_mono HO117.out (fun _ hk => ⟨hk.1.1.2, ⟨hk.1.2, hk.2⟩⟩)⟩, ⟨by (with_reducible repeat (first | apply Ra | apply Rn | apply Rd)); exact Kd.R_mono HO121.out (fun _ hk => ⟨hk.1.1.2, ⟨hk.1.2, hk.2⟩⟩)⟩, ⟨by repeat (first | (with_reducible first | exact HB.out | apply lA | apply lN | apply lD) | exact HB.out)⟩⟩
      ·rw [if_neg c26] at H
       have c26b0 : (t115 == 0) = false := beq_eq_false_iff_ne.mpr c26
       have c26b1 : (t115 != 0) = true := bne_iff_ne.mpr c26
       have H' := am H
       clear H
       obtain ⟨Ao29, co29, eo29⟩ := Kd.R_slice HO117.out
       (first | subst eo29 | (injection eo29 with f1_ f2_ f3_; have f4_ := f1_.symm; have f5_ := f3_.symm; clear f1_ f2_ f3_; subst f4_; subst f5_))
       obtain ⟨Ao30, co30, eo30⟩ := Kd.R_slice HO121.out
       (first | subst eo30 | (injection eo30 with f1_ f2_ f3_; have f4_ := f1_.symm; have f5_ := f3_.symm; clear f1_ f2_ f3_; subst f4_; subst f5_))
       go_wp2
       go_meet
       case rel => exact ⟨_, (true), (by first | rfl | (simp; done) | (simp [*]; done)), H', ⟨by have := HK1.out; first | omega | exact Nat.le_refl _⟩, ⟨by (with_reducible repeat (first | apply Ra | apply Rn | apply Rd)); exact Kd.R_mono HO_11.out (fun _ hk => ⟨hk.1.1, ⟨hk.1.2, hk.2⟩⟩)⟩, ⟨by (with_reducible repeat (first | apply Ra | apply Rn | apply Rd)); exact Kd.R_mono HO_12.out (fun _ hk => ⟨hk.1.1, ⟨hk.1.2, hk.2⟩⟩)⟩, ⟨by (with_reducible repeat (first | apply Ra | apply Rn | apply Rd)); exact Kd.R_mono HO117.out (fun _ hk => ⟨hk.1.1.2, ⟨hk.1.2, hk.2⟩⟩)⟩, ⟨by (with_reducible repeat (first | apply Ra | apply Rn | apply Rd)); exact Kd.R_mono HO121.out (fun _ hk => ⟨hk.1.1.2, ⟨hk.1.2, hk.2⟩⟩)⟩, ⟨by repeat (first | (with_reducible first | exact HB.out | apply lA | apply lN | apply lD) | exact HB.out)⟩⟩
     ·rw [if_neg c25] at H
      have c25b0 : ((t114.length : Int) == (t118.length : Int)) = false := beq_eq_false_iff_ne.mpr c25
      have c25b1 : ((t114.length : Int) != (t118.length : Int)) = true := bne_iff_ne.mpr c25
      have c25b2 : (t114.length == t118.length) = false := by first | simpa using c25 | (simp at c25 ⊢; omega)
      (first | rw [c25b0] | (simp only [i64_w, i32_w]; rw [c25b0]) | skip)
      have H' := am H
      clear H
      obtain ⟨Ao31, co31, eo31⟩ := Kd.R_slice HO117.out
      (first | subst eo31 | (injection eo31 with f1_ f2_ f3_; have f4_ := f1_.symm; have f5_ := f3_.symm; clear f1_ f2_ f3_; subst f4_; subst f5_))
      obtain ⟨Ao32, co32, eo32⟩ := Kd.R_slice HO121.out
      (first | subst eo32 | (injection eo32 with f1_ f2_ f3_; have f4_ := f1_.symm; have f5_ := f3_.symm; clear f1_ f2_ f3_; subst f4_; subst f5_))
      go_wp2
      go_meet
      case rel => exact ⟨_, (true), (by first | rfl | (simp; done) | (simp [*]; done)), H', ⟨by have := HK1.out; first | omega | exact Nat.le_refl _⟩, ⟨by (with_reducible repeat (first | apply Ra | apply Rn | apply Rd)); exact Kd.R_mono HO_11.out (fun _ hk => ⟨hk.1.1, ⟨hk.1.2, hk.2⟩⟩)⟩, ⟨by (with_reducible repeat (first | apply Ra | apply Rn | apply Rd)); exact Kd.R_mono HO_12.out (fun _ hk => ⟨hk.1.1, ⟨hk.1.2, hk.2⟩⟩)⟩, ⟨by (with_reducible repeat (first | apply Ra | apply Rn | apply Rd)); exact Kd.R_mono HO117.out (fun _ hk => ⟨hk.1.1.2, ⟨hk.1.2, hk.2⟩⟩)⟩, ⟨by (with_reducible repeat (first | apply Ra | apply Rn | apply Rd)); exact Kd.R_mono HO121.out (fun _ hk => ⟨hk.1.1.2, ⟨hk.1.2, hk.2⟩⟩)⟩, ⟨by repeat (first | (with_reducible first | exact HB.out | apply lA | apply lN | apply lD) | exact HB.out)⟩⟩
    case rest =>
     clear HC21
     try clear c1
     try clear p1
     try clear q1
     try clear hx1
     try clear c2
     try clear p2
     try clear c3
     try clear p6
     try clear c10
     try clear c10b0
     try clear p10
     try clear q10
     try clear hx10
     try clear c11
     try clear c11b0
     try clear c12
     try clear c12b0
     try clear c13
     try clear c14
     try clear c15
     try clear c16
     try clear c25
     try clear c25b0
     try clear c25b1
     try clear c25b2
     try clear c26
     try clear c26b0
     try clear c26b1
     try clear hx106_0
     try clear hx106_1
     try clear hx107_0
     try clear hx107_1
     try clear p106
     try clear p107
     try clear p2
     try clear p6
     try clear q106
     try clear q107
     obtain ⟨kq, x70_20, rfl, HA, HJ20, HO_11, HO_12, HO_14, HO_16, HB⟩ := hcut
     cases kq with
     | zero => exact absurd HA.out (by simp [lambrequinlaw10_GraphOrder.j1])
     | succ kj20 =>
      have H := HA.out
      clear HA
      simp only [lambrequinlaw10_GraphOrder.j1] at H
      by_cases c33 : x70_20 = true
      ·subst c33
       have H1 : (some false) = some r := by rw [if_pos rfl] at H; exact H
       clear H
       have H := H1
       clear H1
       obtain rfl := Option.some.inj H
       go_wp2
       go_ret
       exact ⟨by first | rfl | (simp [errW_none, errW_some] <;> rfl) | (simp [*, errW_none, errW_some] <;> rfl), by repeat (first | (with_reducible first | exact HB.out | apply lA | apply lN | apply lD) | exact HB.out)⟩
      ·replace c33 := Bool.eq_false_iff.mpr c33
       subst c33
       have H1 : (lambrequinlaw10_GraphOrder.l1 kj20 a2 a3 t101 t102 t103 x12_1 t114 t118 0) = some r := by rw [if_neg (show ¬ (false = true) by decide)] at H; exact H
       clear H
       have H := H1
       clear H1
       have H' := am H
       clear H
       go_wp2
       go_loopg [18] kj20 (fun kq v18 w' => ∃ (x18_3 : Int), v18 = .int .i64 x18_3 ∧ Aside0 (lambrequinlaw10_GraphOrder.l1 kq a2 a3 t101 t102 t103 x12_1 t114 t118 x18_3 = some r) ∧ Aside0 (kq ≤ kj20) ∧ Aside0 (Kd.R k27 27 w' w.heap.size (fun k_ => some k_ ≠ ((.slice Ao23 x12_1.length co23) : Value).ownBlock ∧ some k_ ≠ (v116 : Value).ownBlock ∧ some k_ ≠ (v120 : Value).ownBlock) (.slice Ao9 t103.length co9) t103) ∧ Aside0 (Kd.R k27 27 w' w.heap.size (fun k_ => some k_ ≠ ((.slice Ao9 t103.length co9) : Value).ownBlock ∧ some k_ ≠ (v116 : Value).ownBlock ∧ some k_ ≠ (v120 : Value).ownBlock) (.slice Ao23 x12_1.length co23) x12_1) ∧ Aside0 (Kd.R k27 27 w' w.heap.size (fun k_ => some k_ ≠ ((.slice Ao9 t103.length co9) : Value).ownBlock ∧ some k_ ≠ ((.slice Ao23 x12_1.length co23) : Value).ownBlock ∧ some k_ ≠ (v120 : Value).ownBlock) v116 t114) ∧ Aside0 (Kd.R k27 27 w' w.heap.size (fun k_ => some k_ ≠ ((.slice Ao9 t103.length co9) : Value).ownBlock ∧ some k_ ≠ ((.slice Ao23 x12_1.length co23) : Value).ownBlock ∧ some k_ ≠ (v116 : Value).ownBlock) v120 t118) ∧ Aside0 (Below w.heap.size w w'))
       case atStart => exact ⟨(0), (by first | rfl | (simp; done) | (simp [*]; done)), H', ⟨Nat.le_refl _⟩, ⟨by (with_reducible repeat (first | apply Ra | apply Rn | apply Rd)); exact HO_11.out⟩, ⟨by (with_reducible repeat (first | apply Ra | apply Rn | apply Rd)); exact HO_12.out⟩, ⟨by (with_reducible repeat (first | apply Ra | apply Rn | apply Rd)); exact HO_14.out⟩, ⟨by (with_reducible repeat (first | apply Ra | apply Rn | apply Rd)); exact HO_16.out⟩, ⟨by repeat (first | (with_reducible first | exact HB.out | apply lA | apply lN | apply lD) | exact HB.out)⟩⟩
       case round =>
        clear H'
        try clear c1
        try clear p1
        try clear q1
        try clear hx1
        try clear c2
        try clear p2
        try clear c3
        try clear p6
        try clear c10
        try clear c10b0
        try clear p10
        try clear q10
        try clear hx10
        try clear c11
        try clear c11b0
        try clear c12
        try clear c12b0
        try clear c13
        try clear c14
        try clear c15
        try clear c16
        try clear c25
        try clear c25b0
        try clear c25b1
        try clear c25b2
        try clear c26
        try clear c26b0
        try clear c26b1
        try clear c33
        try clear hx106_0
        try clear hx106_1
        try clear hx107_0
        try clear hx107_1
        try clear p1
        try clear p10
        try clear p106
        try clear p107
        try clear p2
        try clear p6
        try clear q1
        try clear q10
        try clear q106
        try clear q107
        obtain ⟨x18_3, rfl, HA, HK3, HO_11, HO_12, HO_14, HO_16, HB⟩ := hrel
        cases gk with
        | zero => exact absurd HA.out (by simp [lambrequinlaw10_GraphOrder.l1])
        | succ k3 =>
         have H := HA.out
         clear HA
         simp only [lambrequinlaw10_GraphOrder.l1] at H
         by_cases c34 : x18_3 < (t114.length : Int)
         ·rw [if_pos c34] at H
          have c34b0 : decide (x18_3 < (t114.length : Int)) = true := decide_eq_true c34
          clear c34
          by_cases c35 : 0 ≤ x18_3
          ·rw [if_pos c35] at H
           have c35b0 : decide (0 ≤ x18_3) = true := decide_eq_true c35
           clear c35
           by_cases c36 : x18_3 < (t118.length : Int)
           ·rw [if_pos c36] at H
            have c36b0 : decide (x18_3 < (t118.length : Int)) = true := decide_eq_true c36
            clear c36
            by_cases c37 : (!(((rd_T27 t114 x18_3).fst) == ((rd_T27 t118 x18_3).fst)) || (!(((rd_T27 t114 x18_3).snd) == ((rd_T27 t118 x18_3).snd)))) = true
            ·rw [if_pos c37] at H
             have c37b0 : (!(((rd_T27 t114 x18_3).fst) == ((rd_T27 t118 x18_3).fst)) || (!(((rd_T27 t114 x18_3).snd) == ((rd_T27 t118 x18_3).snd)))) = true := c37
             clear c37
             obtain rfl := Option.some.inj H
             obtain ⟨Ao38, co38, eo38⟩ := Kd.R_slice HO_14.out
             (first | subst eo38 | (injection eo38 with f1_ f2_ f3_; have f4_ := f1_.symm; have f5_ := f3_.symm; clear f1_ f2_ f3_; subst f4_; subst f5_))
             (try (obtain ⟨_, _, eo_⟩ := Kd.R_slice HO_14.out; subst eo_))
             (try (obtain ⟨_, _, eo_⟩ := Kd.R_slice HO_16.out; subst eo_))
             try go_wp2
             replace HO_11 := am (Kd.R_drew HO_11.out)
             replace HO_12 := am (Kd.R_drew HO_12.out)
             replace HO_14 := am (Kd.R_drew HO_14.out)
             replace HO_16 := am (Kd.R_drew HO_16.out)
             replace HB := am (below_drew1 HB.out)
             have p122 : 0 ≤ (x18_3 : Int) := of_decide_eq_true (by first | (with_reducible assumption) | assumption)
             have q122 : x18_3 < (t114.length : Int) := of_decide_eq_true (by first | (with_reducible assumption) | assumption)
             obtain ⟨ad122, e122, hx122_0, hx122_1⟩ := at_T27 (Kd.R_reads' HO_14.out).2.2 x18_3 p122 q122
             cases e122
             replace p122 := eq_true p122
             replace q122 := eq_true q122
             obtain ⟨Ao40, co40, eo40⟩ := Kd.R_slice HO_16.out
             (first | subst eo40 | (injection eo40 with f1_ f2_ f3_; have f4_ := f1_.symm; have f5_ := f3_.symm; clear f1_ f2_ f3_; subst f4_; subst f5_))
             have p123 : 0 ≤ (x18_3 : Int) := of_decide_eq_true (by first | (with_reducible assumption) | assumption)
             have q123 : x18_3 < (t118.length : Int) := of_decide_eq_true (by first | (with_reducible assumption) | assumption)
             obtain ⟨ad123, e123, hx123_0, hx123_1⟩ := at_T27 (Kd.R_reads' HO_16.out).2.2 x18_3 p123 q123
             cases e123
             replace p123 := eq_true p123
             replace q123 := eq_true q123
             refine start_ (n := 25) (S := fun w' => w'.cell? (ad122.add ((x18_3).toNat * 2)) = some (.int .i64 ((rd_T27 t114 x18_3).fst)) ∧ w'.cell? ⟨(ad122.add ((x18_3).toNat * 2)).block, (ad122.add ((x18_3).toNat * 2)).off + 1, none⟩ = some (.int .i64 ((rd_T27 t114 x18_3).snd)) ∧ w'.cell? (ad123.add ((x18_3).toNat * 2)) = some (.int .i64 ((rd_T27 t118 x18_3).fst)) ∧ w'.cell? ⟨(ad123.add ((x18_3).toNat * 2)).block, (ad123.add ((x18_3).toNat * 2)).off + 1, none⟩ = some (.int .i64 ((rd_T27 t118 x18_3).snd))) (ds := []) (bl 25 0) (by kernel_rfl) rfl rfl ⟨hx122_0, hx122_1, hx123_0, hx123_1⟩ (fun hHeld => ?_); refine with_tabW lambrequinlaw10_GraphOrder.tab15 lambrequinlaw10_GraphOrder.bits15 (fun HT_ HW_ => ?_)
             generalize wr.drew = w39 at HO_11 HO_12 HO_14 HO_16 HB hx122_0 hx122_1 hx123_0 hx123_1 hHeld ⊢
             refine pure_ (i := 0) (N := some 77) (v := ?_) (a' := ?_) (bl 25 1) rfl rfl (any_of HT_.out (by kernel_rfl)) (fun _ _ _ h => h) (Or.inl ⟨by rfl, ?_⟩) ?_ ?_
             rotate_left
             ·intro w'
              go_simp
              with_reducible rfl
             rotate_left
             ·simp only [Act.put, sA, sZ, sS, i64_w, i32_w]
              rfl
             refine pure_ (i := 1) (N := some 78) (v := ?_) (a' := ?_) (bl 25 3) rfl rfl (any_of HT_.out (by kernel_rfl)) (fun _ _ _ h => h) (Or.inl ⟨by rfl, ?_⟩) ?_ ?_
             rotate_left
             ·intro w'
              go_simp
              with_reducible rfl
             rotate_left
             ·simp only [Act.put, sA, sZ, sS, i64_w, i32_w]
              rfl
             refine pure_ (i := 2) (N := some 79) (v := ?_) (a' := ?_) (bl 25 7) rfl rfl (any_of HT_.out (by kernel_rfl)) (fun _ _ _ h => h) (Or.inl ⟨by rfl, ?_⟩) ?_ ?_
             rotate_left
             ·intro w'
              go_simp
              with_reducible rfl
             rotate_left
             ·simp only [Act.put, sA, sZ, sS, i64_w, i32_w]
              rfl
             refine pure_ (i := 4) (N := some 81) (v := ?_) (a' := ?_) (bl 25 23) rfl rfl (any_of HT_.out (by kernel_rfl)) (fun _ _ _ h => h) (Or.inl ⟨by rfl, ?_⟩) ?_ ?_
             rotate_left
             ·intro w'
              go_simp
              with_reducible rfl
             rotate_left
             ·simp only [Act.put, sA, sZ, sS, i64_w, i32_w]
              rfl
             refine pure_ (i := 5) (N := some 82) (v := ?_) (a' := ?_) (bl 25 55) rfl rfl (any_of HT_.out (by kernel_rfl)) (fun _ _ _ h => h) (Or.inl ⟨by rfl, ?_⟩) ?_ ?_
             rotate_left
             ·intro w'
              go_simp
              with_reducible rfl
             rotate_left
             ·simp only [Act.put, sA, sZ, sS, i64_w, i32_w]
              rfl
             refine pure_ (i := 6) (N := some 83) (v := ?_) (a' := ?_) (bl 25 119) rfl rfl (any_of HT_.out (by kernel_rfl)) (fun _ _ _ h => h) (Or.inl ⟨by rfl, ?_⟩) ?_ ?_
             rotate_left
             ·intro w'
              go_simp
              with_reducible rfl
             rotate_left
             ·simp only [Act.put, sA, sZ, sS, i64_w, i32_w]
              rfl
             refine take_ (i := 3) (N := some 80) (v := ?_) (a' := ?_) (bl 25 127) rfl rfl (take_ofW HT_.out HW_.out (by kernel_rfl)) (fun _ _ _ h => h) (Or.inl ⟨by rfl, ?_⟩) hHeld ?_ ?_
             rotate_left
             ·rintro w' ⟨s0, s1, s2, s3⟩
              go_simp
              with_reducible rfl
             rotate_left
             ·simp only [Act.put, sA, sZ, sS, i64_w, i32_w]
              rfl
             refine take_ (i := 7) (N := some 84) (v := ?_) (a' := ?_) (bl 25 255) rfl rfl (take_ofW HT_.out HW_.out (by kernel_rfl)) (fun _ _ _ h => h) (Or.inl ⟨by rfl, ?_⟩) hHeld ?_ ?_
             rotate_left
             ·rintro w' ⟨s0, s1, s2, s3⟩
              go_simp
              with_reducible rfl
             rotate_left
             ·simp only [Act.put, sA, sZ, sS, i64_w, i32_w]
              rfl
             refine pure_ (i := 8) (N := some 85) (v := ?_) (a' := ?_) (bl 25 511) rfl rfl (any_of HT_.out (by kernel_rfl)) (fun _ _ _ h => h) (Or.inl ⟨by rfl, ?_⟩) ?_ ?_
             rotate_left
             ·intro w'
              go_simp
              with_reducible rfl
             rotate_left
             ·simp only [Act.put, sA, sZ, sS, i64_w, i32_w]
              rfl
             refine pure_ (i := 9) (N := some 86) (v := ?_) (a' := ?_) (bl 25 1023) rfl rfl (any_of HT_.out (by kernel_rfl)) (fun _ _ _ h => h) (Or.inl ⟨by rfl, ?_⟩) ?_ ?_
             rotate_left
             ·intro w'
              go_simp
              with_reducible rfl
             rotate_left
             ·simp only [Act.put, sA, sZ, sS, i64_w, i32_w]
              rfl
             refine pure_ (i := 10) (N := some 87) (v := undef) (a' := ?_) (bl 25 2047) rfl rfl (any_of HT_.out (by kernel_rfl)) (fun _ _ _ h => h) (Or.inr ⟨by rfl, rfl⟩) ?_ ?_
             rotate_left
             ·simp only [Act.put, sA, sZ, sS, i64_w, i32_w]
              rfl
             refine pure_ (i := 11) (N := some 88) (v := undef) (a' := ?_) (bl 25 4095) rfl rfl (any_of HT_.out (by kernel_rfl)) (fun _ _ _ h => h) (Or.inr ⟨by rfl, rfl⟩) ?_ ?_
             rotate_left
             ·simp only [Act.put, sA, sZ, sS, i64_w, i32_w]
              rfl
             refine pure_ (i := 12) (N := some 89) (v := undef) (a' := ?_) (bl 25 8191) rfl rfl (any_of HT_.out (by kernel_rfl)) (fun _ _ _ h => h) (Or.inr ⟨by rfl, rfl⟩) ?_ ?_
             rotate_left
             ·simp only [Act.put, sA, sZ, sS, i64_w, i32_w]
              rfl
             refine pure_ (i := 13) (N := some 90) (v := undef) (a' := ?_) (bl 25 16383) rfl rfl (any_of HT_.out (by kernel_rfl)) (fun _ _ _ h => h) (Or.inr ⟨by rfl, rfl⟩) ?_ ?_
             rotate_left
             ·simp only [Act.put, sA, sZ, sS, i64_w, i32_w]
              rfl
             refine pure_ (i := 14) (N := some 91) (v := undef) (a' := ?_) (bl 25 32767) rfl rfl (any_of HT_.out (by kernel_rfl)) (fun _ _ _ h => h) (Or.inr ⟨by rfl, rfl⟩) ?_ ?_
             rotate_left
             ·simp only [Act.put, sA, sZ, sS, i64_w, i32_w]
              rfl
             refine pure_ (i := 15) (N := some 92) (v := undef) (a' := ?_) (bl 25 65535) rfl rfl (any_of HT_.out (by kernel_rfl)) (fun _ _ _ h => h) (Or.inr ⟨by rfl, rfl⟩) ?_ ?_
             rotate_left
             ·simp only [Act.put, sA, sZ, sS, i64_w, i32_w]
              rfl
             refine pure_ (i := 16) (N := some 93) (v := undef) (a' := ?_) (bl 25 131071) rfl rfl (any_of HT_.out (by kernel_rfl)) (fun _ _ _ h => h) (Or.inr ⟨by rfl, rfl⟩) ?_ ?_
             rotate_left
             ·simp only [Act.put, sA, sZ, sS, i64_w, i32_w]
              rfl
             refine pure_ (i := 17) (N := some 94) (v := undef) (a' := ?_) (bl 25 262143) rfl rfl (any_of HT_.out (by kernel_rfl)) (fun _ _ _ h => h) (Or.inr ⟨by rfl, rfl⟩) ?_ ?_
             rotate_left
             ·simp only [Act.put, sA, sZ, sS, i64_w, i32_w]
              rfl
             refine pure_ (i := 18) (N := some 95) (v := undef) (a' := ?_) (bl 25 524287) rfl rfl (any_of HT_.out (by kernel_rfl)) (fun _ _ _ h => h) (Or.inr ⟨by rfl, rfl⟩) ?_ ?_
             rotate_left
             ·simp only [Act.put, sA, sZ, sS, i64_w, i32_w]
              rfl
             refine pure_ (i := 19) (N := some 96) (v := undef) (a' := ?_) (bl 25 1048575) rfl rfl (any_of HT_.out (by kernel_rfl)) (fun _ _ _ h => h) (Or.inr ⟨by rfl, rfl⟩) ?_ ?_
             rotate_left
             ·simp only [Act.put, sA, sZ, sS, i64_w, i32_w]
              rfl
             refine pure_ (i := 20) (N := some 97) (v := undef) (a' := ?_) (bl 25 2097151) rfl rfl (any_of HT_.out (by kernel_rfl)) (fun _ _ _ h => h) (Or.inr ⟨by rfl, rfl⟩) ?_ ?_
             rotate_left
             ·simp only [Act.put, sA, sZ, sS, i64_w, i32_w]
              rfl
             refine pure_ (i := 21) (N := some 98) (v := undef) (a' := ?_) (bl 25 4194303) rfl rfl (any_of HT_.out (by kernel_rfl)) (fun _ _ _ h => h) (Or.inr ⟨by rfl, rfl⟩) ?_ ?_
             rotate_left
             ·simp only [Act.put, sA, sZ, sS, i64_w, i32_w]
              rfl
             refine pure_ (i := 22) (N := some 99) (v := undef) (a' := ?_) (bl 25 8388607) rfl rfl (any_of HT_.out (by kernel_rfl)) (fun _ _ _ h => h) (Or.inr ⟨by rfl, rfl⟩) ?_ ?_
             rotate_left
             ·simp only [Act.put, sA, sZ, sS, i64_w, i32_w]
              rfl
             refine pure_ (i := 23) (N := some 100) (v := undef) (a' := ?_) (bl 25 16777215) rfl rfl (any_of HT_.out (by kernel_rfl)) (fun _ _ _ h => h) (Or.inr ⟨by rfl, rfl⟩) ?_ ?_
             rotate_left
             ·simp only [Act.put, sA, sZ, sS, i64_w, i32_w]
              rfl
             refine pure_ (i := 24) (N := some 101) (v := ?_) (a' := ?_) (bl 25 33554431) rfl rfl (any_of HT_.out (by kernel_rfl)) (fun _ _ _ h => h) (Or.inl ⟨by rfl, ?_⟩) ?_ ?_
             rotate_left
             ·intro w'
              go_simp
              with_reducible rfl
             rotate_left
             ·simp only [Act.put, sA, sZ, sS, i64_w, i32_w]
              rfl
             refine done_ (done_of HT_.out (by kernel_rfl)) ?_
             try go_wp2
             go_ret
             exact ⟨by first | rfl | (simp [errW_none, errW_some] <;> rfl) | (simp [*, errW_none, errW_some] <;> rfl), by repeat (first | (with_reducible first | exact HB.out | apply lA | apply lN | apply lD) | exact HB.out)⟩
            ·rw [if_neg c37] at H
             have c37b0 : (!(((rd_T27 t114 x18_3).fst) == ((rd_T27 t118 x18_3).fst)) || (!(((rd_T27 t114 x18_3).snd) == ((rd_T27 t118 x18_3).snd)))) = false := by simpa using c37
             clear c37
             by_cases c41 : x18_3 > 0
             ·rw [if_pos c41] at H
              have c41b0 : decide (0 < x18_3) = true := decide_eq_true c41
              clear c41
              obtain ⟨ji42, hji42⟩ : ∃ j_ : Int, (wrap64 (x18_3 - 1)) = j_ := ⟨_, rfl⟩
              replace H : (if 0 ≤ (ji42) then (if (ji42) < (t114.length : Int) then (if (((rd_T27 t114 x18_3).fst) == ((rd_T27 t114 (ji42)).fst) && (((rd_T27 t114 x18_3).snd) == ((rd_T27 t114 (ji42)).snd))) = true then (some false) else (lambrequinlaw10_GraphOrder.l1 k3 a2 a3 t101 t102 t103 x12_1 t114 t118 (wrap64 (x18_3 + 1)))) else (none)) else (none)) = some r := by first | (rw [hji42] at H; exact H) | (simp only [hji42] at H ⊢; exact H)
              have hji42w : (IntKind.i64.wrap (x18_3 - 1)) = ji42 := (i64_w _).trans hji42
              by_cases c43 : 0 ≤ (ji42)
              ·rw [if_pos c43] at H
               have c43b0 : decide (0 ≤ (ji42)) = true := decide_eq_true c43
               clear c43
               by_cases c44 : (ji42) < (t114.length : Int)
               ·rw [if_pos c44] at H
                have c44b0 : decide ((ji42) < (t114.length : Int)) = true := decide_eq_true c44
                clear c44
                (try (obtain ⟨_, _, eo_⟩ := Kd.R_slice HO_14.out; subst eo_))
                (try (obtain ⟨_, _, eo_⟩ := Kd.R_slice HO_16.out; subst eo_))
                try go_wp2
                replace HO_11 := am (Kd.R_drew HO_11.out)
                replace HO_12 := am (Kd.R_drew HO_12.out)
                replace HO_14 := am (Kd.R_drew HO_14.out)
                replace HO_16 := am (Kd.R_drew HO_16.out)
                replace HB := am (below_drew1 HB.out)
                have p122 : 0 ≤ (x18_3 : Int) := of_decide_eq_true (by first | (with_reducible assumption) | assumption)
                have q122 : x18_3 < (t114.length : Int) := of_decide_eq_true (by first | (with_reducible assumption) | assumption)
                obtain ⟨ad122, e122, hx122_0, hx122_1⟩ := at_T27 (Kd.R_reads' HO_14.out).2.2 x18_3 p122 q122
                cases e122
                replace p122 := eq_true p122
                replace q122 := eq_true q122
                obtain ⟨Ao48, co48, eo48⟩ := Kd.R_slice HO_16.out
                (first | subst eo48 | (injection eo48 with f1_ f2_ f3_; have f4_ := f1_.symm; have f5_ := f3_.symm; clear f1_ f2_ f3_; subst f4_; subst f5_))
                have p123 : 0 ≤ (x18_3 : Int) := of_decide_eq_true (by first | (with_reducible assumption) | assumption)
                have q123 : x18_3 < (t118.length : Int) := of_decide_eq_true (by first | (with_reducible assumption) | assumption)
                obtain ⟨ad123, e123, hx123_0, hx123_1⟩ := at_T27 (Kd.R_reads' HO_16.out).2.2 x18_3 p123 q123
                cases e123
                replace p123 := eq_true p123
                replace q123 := eq_true q123
                have p124 : 0 ≤ (x18_3 : Int) := of_decide_eq_true (by first | (with_reducible assumption) | assumption)
                have q124 : x18_3 < (t114.length : Int) := of_decide_eq_true (by first | (with_reducible assumption) | assumption)
                obtain ⟨ad124, e124, hx124_0, hx124_1⟩ := at_T27 (Kd.R_reads' HO_14.out).2.2 x18_3 p124 q124
                obtain rfl : ad122 = ad124 := (by injection e124)
                replace p124 := eq_true p124
                replace q124 := eq_true q124
                have p125 : 0 ≤ ((ji42) : Int) := of_decide_eq_true (by first | (with_reducible assumption) | assumption)
                have q125 : (ji42) < (t114.length : Int) := of_decide_eq_true (by first | (with_reducible assumption) | assumption)
                obtain ⟨ad125, e125, hx125_0, hx125_1⟩ := at_T27 (Kd.R_reads' HO_14.out).2.2 (ji42) p125 q125
                obtain rfl : ad122 = ad125 := (by injection e125)
                replace p125 := eq_true p125
                replace q125 := eq_true q125
                refine start_ (n := 25) (S := fun w' => w'.cell? (ad122.add ((x18_3).toNat * 2)) = some (.int .i64 ((rd_T27 t114 x18_3).fst)) ∧ w'.cell? ⟨(ad122.add ((x18_3).toNat * 2)).block, (ad122.add ((x18_3).toNat * 2)).off + 1, none⟩ = some (.int .i64 ((rd_T27 t114 x18_3).snd)) ∧ w'.cell? (ad123.add ((x18_3).toNat * 2)) = some (.int .i64 ((rd_T27 t118 x18_3).fst)) ∧ w'.cell? ⟨(ad123.add ((x18_3).toNat * 2)).block, (ad123.add ((x18_3).toNat * 2)).off + 1, none⟩ = some (.int .i64 ((rd_T27 t118 x18_3).snd)) ∧ w'.cell? (ad122.add ((x18_3).toNat * 2)) = some (.int .i64 ((rd_T27 t114 x18_3).fst)) ∧ w'.cell? ⟨(ad122.add ((x18_3).toNat * 2)).block, (ad122.add ((x18_3).toNat * 2)).off + 1, none⟩ = some (.int .i64 ((rd_T27 t114 x18_3).snd)) ∧ w'.cell? (ad122.add (((ji42)).toNat * 2)) = some (.int .i64 ((rd_T27 t114 (ji42)).fst)) ∧ w'.cell? ⟨(ad122.add (((ji42)).toNat * 2)).block, (ad122.add (((ji42)).toNat * 2)).off + 1, none⟩ = some (.int .i64 ((rd_T27 t114 (ji42)).snd))) (ds := []) (bl 25 0) (by kernel_rfl) rfl rfl ⟨hx122_0, hx122_1, hx123_0, hx123_1, hx124_0, hx124_1, hx125_0, hx125_1⟩ (fun hHeld => ?_); refine with_tabW lambrequinlaw10_GraphOrder.tab15 lambrequinlaw10_GraphOrder.bits15 (fun HT_ HW_ => ?_)
                generalize wr.drew = w47 at HO_11 HO_12 HO_14 HO_16 HB hx122_0 hx122_1 hx123_0 hx123_1 hx124_0 hx124_1 hx125_0 hx125_1 hHeld ⊢
                refine pure_ (i := 0) (N := some 77) (v := ?_) (a' := ?_) (bl 25 1) rfl rfl (any_of HT_.out (by kernel_rfl)) (fun _ _ _ h => h) (Or.inl ⟨by rfl, ?_⟩) ?_ ?_
                rotate_left
                ·intro w'
                 go_simp
                 with_reducible rfl
                rotate_left
                ·simp only [Act.put, sA, sZ, sS, i64_w, i32_w]
                 rfl
                refine pure_ (i := 1) (N := some 78) (v := ?_) (a' := ?_) (bl 25 3) rfl rfl (any_of HT_.out (by kernel_rfl)) (fun _ _ _ h => h) (Or.inl ⟨by rfl, ?_⟩) ?_ ?_
                rotate_left
                ·intro w'
                 go_simp
                 with_reducible rfl
                rotate_left
                ·simp only [Act.put, sA, sZ, sS, i64_w, i32_w]
                 rfl
                refine pure_ (i := 2) (N := some 79) (v := ?_) (a' := ?_) (bl 25 7) rfl rfl (any_of HT_.out (by kernel_rfl)) (fun _ _ _ h => h) (Or.inl ⟨by rfl, ?_⟩) ?_ ?_
                rotate_left
                ·intro w'
                 go_simp
                 with_reducible rfl
                rotate_left
                ·simp only [Act.put, sA, sZ, sS, i64_w, i32_w]
                 rfl
                refine pure_ (i := 4) (N := some 81) (v := ?_) (a' := ?_) (bl 25 23) rfl rfl (any_of HT_.out (by kernel_rfl)) (fun _ _ _ h => h) (Or.inl ⟨by rfl, ?_⟩) ?_ ?_
                rotate_left
                ·intro w'
                 go_simp
                 with_reducible rfl
                rotate_left
                ·simp only [Act.put, sA, sZ, sS, i64_w, i32_w]
                 rfl
                refine pure_ (i := 5) (N := some 82) (v := ?_) (a' := ?_) (bl 25 55) rfl rfl (any_of HT_.out (by kernel_rfl)) (fun _ _ _ h => h) (Or.inl ⟨by rfl, ?_⟩) ?_ ?_
                rotate_left
                ·intro w'
                 go_simp
                 with_reducible rfl
                rotate_left
                ·simp only [Act.put, sA, sZ, sS, i64_w, i32_w]
                 rfl
                refine pure_ (i := 6) (N := some 83) (v := ?_) (a' := ?_) (bl 25 119) rfl rfl (any_of HT_.out (by kernel_rfl)) (fun _ _ _ h => h) (Or.inl ⟨by rfl, ?_⟩) ?_ ?_
                rotate_left
                ·intro w'
                 go_simp
                 with_reducible rfl
                rotate_left
                ·simp only [Act.put, sA, sZ, sS, i64_w, i32_w]
                 rfl
                refine take_ (i := 3) (N := some 80) (v := ?_) (a' := ?_) (bl 25 127) rfl rfl (take_ofW HT_.out HW_.out (by kernel_rfl)) (fun _ _ _ h => h) (Or.inl ⟨by rfl, ?_⟩) hHeld ?_ ?_
                rotate_left
                ·rintro w' ⟨s0, s1, s2, s3, s4, s5, s6, s7⟩
                 go_simp
                 with_reducible rfl
                rotate_left
                ·simp only [Act.put, sA, sZ, sS, i64_w, i32_w]
                 rfl
                refine take_ (i := 7) (N := some 84) (v := ?_) (a' := ?_) (bl 25 255) rfl rfl (take_ofW HT_.out HW_.out (by kernel_rfl)) (fun _ _ _ h => h) (Or.inl ⟨by rfl, ?_⟩) hHeld ?_ ?_
                rotate_left
                ·rintro w' ⟨s0, s1, s2, s3, s4, s5, s6, s7⟩
                 go_simp
                 with_reducible rfl
                rotate_left
                ·simp only [Act.put, sA, sZ, sS, i64_w, i32_w]
                 rfl
                refine pure_ (i := 8) (N := some 85) (v := ?_) (a' := ?_) (bl 25 511) rfl rfl (any_of HT_.out (by kernel_rfl)) (fun _ _ _ h => h) (Or.inl ⟨by rfl, ?_⟩) ?_ ?_
                rotate_left
                ·intro w'
                 go_simp
                 with_reducible rfl
                rotate_left
                ·simp only [Act.put, sA, sZ, sS, i64_w, i32_w]
                 rfl
                refine pure_ (i := 9) (N := some 86) (v := ?_) (a' := ?_) (bl 25 1023) rfl rfl (any_of HT_.out (by kernel_rfl)) (fun _ _ _ h => h) (Or.inl ⟨by rfl, ?_⟩) ?_ ?_
                rotate_left
                ·intro w'
                 go_simp
                 with_reducible rfl
                rotate_left
                ·simp only [Act.put, sA, sZ, sS, i64_w, i32_w]
                 rfl
                refine pure_ (i := 10) (N := some 87) (v := ?_) (a' := ?_) (bl 25 2047) rfl rfl (any_of HT_.out (by kernel_rfl)) (fun _ _ _ h => h) (Or.inl ⟨by rfl, ?_⟩) ?_ ?_
                rotate_left
                ·intro w'
                 go_simp
                 with_reducible rfl
                rotate_left
                ·simp only [Act.put, sA, sZ, sS, i64_w, i32_w]
                 rfl
                refine pure_ (i := 11) (N := some 88) (v := ?_) (a' := ?_) (bl 25 4095) rfl rfl (any_of HT_.out (by kernel_rfl)) (fun _ _ _ h => h) (Or.inl ⟨by rfl, ?_⟩) ?_ ?_
                rotate_left
                ·intro w'
                 go_simp
                 with_reducible rfl
                rotate_left
                ·simp only [Act.put, sA, sZ, sS, i64_w, i32_w]
                 rfl
                refine pure_ (i := 12) (N := some 89) (v := ?_) (a' := ?_) (bl 25 8191) rfl rfl (any_of HT_.out (by kernel_rfl)) (fun _ _ _ h => h) (Or.inl ⟨by rfl, ?_⟩) ?_ ?_
                rotate_left
                ·intro w'
                 go_simp
                 with_reducible rfl
                rotate_left
                ·simp only [Act.put, sA, sZ, sS, i64_w, i32_w]
                 rfl
                refine pure_ (i := 13) (N := some 90) (v := ?_) (a' := ?_) (bl 25 16383) rfl rfl (any_of HT_.out (by kernel_rfl)) (fun _ _ _ h => h) (Or.inl ⟨by rfl, ?_⟩) ?_ ?_
                rotate_left
                ·intro w'
                 go_simp
                 with_reducible rfl
                rotate_left
                ·simp only [Act.put, sA, sZ, sS, i64_w, i32_w]
                 rfl
                refine pure_ (i := 14) (N := some 91) (v := ?_) (a' := ?_) (bl 25 32767) rfl rfl (any_of HT_.out (by kernel_rfl)) (fun _ _ _ h => h) (Or.inl ⟨by rfl, ?_⟩) ?_ ?_
                rotate_left
                ·intro w'
                 go_simp
                 with_reducible rfl
                rotate_left
                ·simp only [Act.put, sA, sZ, sS, i64_w, i32_w]
                 rfl
                refine pure_ (i := 15) (N := some 92) (v := ?_) (a' := ?_) (bl 25 65535) rfl rfl (any_of HT_.out (by kernel_rfl)) (fun _ _ _ h => h) (Or.inl ⟨by rfl, ?_⟩) ?_ ?_
                rotate_left
                ·intro w'
                 go_simp
                 with_reducible rfl
                rotate_left
                ·simp only [Act.put, sA, sZ, sS, i64_w, i32_w]
                 rfl
                refine pure_ (i := 17) (N := some 94) (v := ?_) (a' := ?_) (bl 25 196607) rfl rfl (any_of HT_.out (by kernel_rfl)) (fun _ _ _ h => h) (Or.inl ⟨by rfl, ?_⟩) ?_ ?_
                rotate_left
                ·intro w'
                 go_simp
                 with_reducible rfl
                rotate_left
                ·simp only [Act.put, sA, sZ, sS, i64_w, i32_w]
                 rfl
                refine pure_ (i := 18) (N := some 95) (v := ?_) (a' := ?_) (bl 25 458751) rfl rfl (any_of HT_.out (by kernel_rfl)) (fun _ _ _ h => h) (Or.inl ⟨by rfl, ?_⟩) ?_ ?_
                rotate_left
                ·intro w'
                 go_simp
                 with_reducible rfl
                rotate_left
                ·simp only [Act.put, sA, sZ, sS, i64_w, i32_w]
                 rfl
                refine pure_ (i := 19) (N := some 96) (v := ?_) (a' := ?_) (bl 25 983039) rfl rfl (any_of HT_.out (by kernel_rfl)) (fun _ _ _ h => h) (Or.inl ⟨by rfl, ?_⟩) ?_ ?_
                rotate_left
                ·intro w'
                 go_simp
                 with_reducible rfl
                rotate_left
                ·simp only [Act.put, sA, sZ, sS, i64_w, i32_w]
                 rfl
                refine pure_ (i := 20) (N := some 97) (v := ?_) (a' := ?_) (bl 25 2031615) rfl rfl (any_of HT_.out (by kernel_rfl)) (fun _ _ _ h => h) (Or.inl ⟨by rfl, ?_⟩) ?_ ?_
                rotate_left
                ·intro w'
                 go_simp
                 with_reducible rfl
                rotate_left
                ·simp only [Act.put, sA, sZ, sS, i64_w, i32_w]
                 rfl
                refine take_ (i := 16) (N := some 93) (v := ?_) (a' := ?_) (bl 25 2097151) rfl rfl (take_ofW HT_.out HW_.out (by kernel_rfl)) (fun _ _ _ h => h) (Or.inl ⟨by rfl, ?_⟩) hHeld ?_ ?_
                rotate_left
                ·rintro w' ⟨s0, s1, s2, s3, s4, s5, s6, s7⟩
                 go_simp
                 with_reducible rfl
                rotate_left
                ·simp only [Act.put, sA, sZ, sS, i64_w, i32_w]
                 rfl
                refine take_ (i := 21) (N := some 98) (v := ?_) (a' := ?_) (bl 25 4194303) rfl rfl (take_ofW HT_.out HW_.out (by kernel_rfl)) (fun _ _ _ h => h) (Or.inl ⟨by rfl, ?_⟩) hHeld ?_ ?_
                rotate_left
                ·rintro w' ⟨s0, s1, s2, s3, s4, s5, s6, s7⟩
                 go_simp
                 with_reducible rfl
                rotate_left
                ·simp only [Act.put, sA, sZ, sS, i64_w, i32_w]
                 rfl
                refine pure_ (i := 22) (N := some 99) (v := ?_) (a' := ?_) (bl 25 8388607) rfl rfl (any_of HT_.out (by kernel_rfl)) (fun _ _ _ h => h) (Or.inl ⟨by rfl, ?_⟩) ?_ ?_
                rotate_left
                ·intro w'
                 go_simp
                 with_reducible rfl
                rotate_left
                ·simp only [Act.put, sA, sZ, sS, i64_w, i32_w]
                 rfl
                refine pure_ (i := 23) (N := some 100) (v := ?_) (a' := ?_) (bl 25 16777215) rfl rfl (any_of HT_.out (by kernel_rfl)) (fun _ _ _ h => h) (Or.inl ⟨by rfl, ?_⟩) ?_ ?_
                rotate_left
                ·intro w'
                 go_simp
                 with_reducible rfl
                rotate_left
                ·simp only [Act.put, sA, sZ, sS, i64_w, i32_w]
                 rfl
                refine pure_ (i := 24) (N := some 101) (v := ?_) (a' := ?_) (bl 25 33554431) rfl rfl (any_of HT_.out (by kernel_rfl)) (fun _ _ _ h => h) (Or.inl ⟨by rfl, ?_⟩) ?_ ?_
                rotate_left
                ·intro w'
                 go_simp
                 with_reducible rfl
                rotate_left
                ·simp only [Act.put, sA, sZ, sS, i64_w, i32_w]
                 rfl
                refine done_ (done_of HT_.out (by kernel_rfl)) ?_
                by_cases c45 : (((rd_T27 t114 x18_3).fst) == ((rd_T27 t114 (ji42)).fst) && (((rd_T27 t114 x18_3).snd) == ((rd_T27 t114 (ji42)).snd))) = true
                ·rw [if_pos c45] at H
                 have c45b0 : (((rd_T27 t114 x18_3).fst) == ((rd_T27 t114 (ji42)).fst) && (((rd_T27 t114 x18_3).snd) == ((rd_T27 t114 (ji42)).snd))) = true := c45
                 (try (have c45b1 : decide (((rd_T27 t114 x18_3).fst) = ((rd_T27 t114 (ji42)).fst) && (((rd_T27 t114 x18_3).snd) == ((rd_T27 t114 (ji42)).snd))) = true := by simpa using c45))
                 (try (have c45b2 : (((rd_T27 t114 x18_3).fst) == ((rd_T27 t114 (ji42)).fst) && (((rd_T27 t114 x18_3).snd) == ((rd_T27 t114 (ji42)).snd))) = true := by simpa using c45))
                 clear c45
                 obtain rfl := Option.some.inj H
                 obtain ⟨Ao46, co46, eo46⟩ := Kd.R_slice HO_14.out
                 (first | subst eo46 | (injection eo46 with f1_ f2_ f3_; have f4_ := f1_.symm; have f5_ := f3_.symm; clear f1_ f2_ f3_; subst f4_; subst f5_))
                 try rw [c45b0]
                 try go_wp2
                 go_ret
                 exact ⟨by first | rfl | (simp [errW_none, errW_some] <;> rfl) | (simp only [← hji42]; first | rfl | (simp [errW_none, errW_some] <;> rfl)) | (simp [*, errW_none, errW_some] <;> rfl), by repeat (first | (with_reducible first | exact HB.out | apply lA | apply lN | apply lD) | exact HB.out)⟩
                ·rw [if_neg c45] at H
                 have c45b0 : (((rd_T27 t114 x18_3).fst) == ((rd_T27 t114 (ji42)).fst) && (((rd_T27 t114 x18_3).snd) == ((rd_T27 t114 (ji42)).snd))) = false := by simpa using c45
                 (try (have c45b1 : decide (((rd_T27 t114 x18_3).fst) = ((rd_T27 t114 (ji42)).fst) && (((rd_T27 t114 x18_3).snd) == ((rd_T27 t114 (ji42)).snd))) = false := by simpa using c45))
                 (try (have c45b2 : (((rd_T27 t114 x18_3).fst) == ((rd_T27 t114 (ji42)).fst) && (((rd_T27 t114 x18_3).snd) == ((rd_T27 t114 (ji42)).snd))) = false := by simpa using c45))
                 (try (have c45b3 : ¬ (((rd_T27 t114 x18_3).fst) = ((rd_T27 t114 (ji42)).fst) && (((rd_T27 t114 x18_3).snd) == ((rd_T27 t114 (ji42)).snd))) := by simpa using c45))
                 clear c45
                 have H' := am H
                 clear H
                 obtain ⟨Ao49, co49, eo49⟩ := Kd.R_slice HO_14.out
                 (first | subst eo49 | (injection eo49 with f1_ f2_ f3_; have f4_ := f1_.symm; have f5_ := f3_.symm; clear f1_ f2_ f3_; subst f4_; subst f5_))
                 try rw [c45b0]
                 try go_wp2
                 go_roundg k3
                 case measure => have := HK1.out; have := HJ20.out; have := HK3.out; omega
                 case rel => exact ⟨(wrap64 (x18_3 + 1)), (by first | rfl | (simp; done) | (simp [*]; done)), H', ⟨by have := HK1.out; have := HJ20.out; have := HK3.out; omega⟩, ⟨by (with_reducible repeat (first | apply Ra | apply Rn | apply Rd)); exact HO_11.out⟩, ⟨by (with_reducible repeat (first | apply Ra | apply Rn | apply Rd)); exact HO_12.out⟩, ⟨by (with_reducible repeat (first | apply Ra | apply Rn | apply Rd)); exact HO_14.out⟩, ⟨by (with_reducible repeat (first | apply Ra | apply Rn | apply Rd)); exact HO_16.out⟩, ⟨by repeat (first | (with_reducible first | exact HB.out | apply lA | apply lN | apply lD) | exact HB.out)⟩⟩
               ·rw [if_neg c44] at H
                exact absurd H (by simp)
              ·rw [if_neg c43] at H
               exact absurd H (by simp)
             ·rw [if_neg c41] at H
              have c41b0 : decide (0 < x18_3) = false := decide_eq_false c41
              clear c41
              have H' := am H
              clear H
              obtain ⟨Ao52, co52, eo52⟩ := Kd.R_slice HO_14.out
              (first | subst eo52 | (injection eo52 with f1_ f2_ f3_; have f4_ := f1_.symm; have f5_ := f3_.symm; clear f1_ f2_ f3_; subst f4_; subst f5_))
              (try (obtain ⟨_, _, eo_⟩ := Kd.R_slice HO_14.out; subst eo_))
              (try (obtain ⟨_, _, eo_⟩ := Kd.R_slice HO_16.out; subst eo_))
              try go_wp2
              replace HO_11 := am (Kd.R_drew HO_11.out)
              replace HO_12 := am (Kd.R_drew HO_12.out)
              replace HO_14 := am (Kd.R_drew HO_14.out)
              replace HO_16 := am (Kd.R_drew HO_16.out)
              replace HB := am (below_drew1 HB.out)
              have p122 : 0 ≤ (x18_3 : Int) := of_decide_eq_true (by first | (with_reducible assumption) | assumption)
              have q122 : x18_3 < (t114.length : Int) := of_decide_eq_true (by first | (with_reducible assumption) | assumption)
              obtain ⟨ad122, e122, hx122_0, hx122_1⟩ := at_T27 (Kd.R_reads' HO_14.out).2.2 x18_3 p122 q122
              cases e122
              replace p122 := eq_true p122
              replace q122 := eq_true q122
              obtain ⟨Ao54, co54, eo54⟩ := Kd.R_slice HO_16.out
              (first | subst eo54 | (injection eo54 with f1_ f2_ f3_; have f4_ := f1_.symm; have f5_ := f3_.symm; clear f1_ f2_ f3_; subst f4_; subst f5_))
              have p123 : 0 ≤ (x18_3 : Int) := of_decide_eq_true (by first | (with_reducible assumption) | assumption)
              have q123 : x18_3 < (t118.length : Int) := of_decide_eq_true (by first | (with_reducible assumption) | assumption)
              obtain ⟨ad123, e123, hx123_0, hx123_1⟩ := at_T27 (Kd.R_reads' HO_16.out).2.2 x18_3 p123 q123
              cases e123
              replace p123 := eq_true p123
              replace q123 := eq_true q123
              refine start_ (n := 25) (S := fun w' => w'.cell? (ad122.add ((x18_3).toNat * 2)) = some (.int .i64 ((rd_T27 t114 x18_3).fst)) ∧ w'.cell? ⟨(ad122.add ((x18_3).toNat * 2)).block, (ad122.add ((x18_3).toNat * 2)).off + 1, none⟩ = some (.int .i64 ((rd_T27 t114 x18_3).snd)) ∧ w'.cell? (ad123.add ((x18_3).toNat * 2)) = some (.int .i64 ((rd_T27 t118 x18_3).fst)) ∧ w'.cell? ⟨(ad123.add ((x18_3).toNat * 2)).block, (ad123.add ((x18_3).toNat * 2)).off + 1, none⟩ = some (.int .i64 ((rd_T27 t118 x18_3).snd))) (ds := []) (bl 25 0) (by kernel_rfl) rfl rfl ⟨hx122_0, hx122_1, hx123_0, hx123_1⟩ (fun hHeld => ?_); refine with_tabW lambrequinlaw10_GraphOrder.tab15 lambrequinlaw10_GraphOrder.bits15 (fun HT_ HW_ => ?_)
              generalize wr.drew = w53 at HO_11 HO_12 HO_14 HO_16 HB hx122_0 hx122_1 hx123_0 hx123_1 hHeld ⊢
              refine pure_ (i := 0) (N := some 77) (v := ?_) (a' := ?_) (bl 25 1) rfl rfl (any_of HT_.out (by kernel_rfl)) (fun _ _ _ h => h) (Or.inl ⟨by rfl, ?_⟩) ?_ ?_
              rotate_left
              ·intro w'
               go_simp
               with_reducible rfl
              rotate_left
              ·simp only [Act.put, sA, sZ, sS, i64_w, i32_w]
               rfl
              refine pure_ (i := 1) (N := some 78) (v := ?_) (a' := ?_) (bl 25 3) rfl rfl (any_of HT_.out (by kernel_rfl)) (fun _ _ _ h => h) (Or.inl ⟨by rfl, ?_⟩) ?_ ?_
              rotate_left
              ·intro w'
               go_simp
               with_reducible rfl
              rotate_left
              ·simp only [Act.put, sA, sZ, sS, i64_w, i32_w]
               rfl
              refine pure_ (i := 2) (N := some 79) (v := ?_) (a' := ?_) (bl 25 7) rfl rfl (any_of HT_.out (by kernel_rfl)) (fun _ _ _ h => h) (Or.inl ⟨by rfl, ?_⟩) ?_ ?_
              rotate_left
              ·intro w'
               go_simp
               with_reducible rfl
              rotate_left
              ·simp only [Act.put, sA, sZ, sS, i64_w, i32_w]
               rfl
              refine pure_ (i := 4) (N := some 81) (v := ?_) (a' := ?_) (bl 25 23) rfl rfl (any_of HT_.out (by kernel_rfl)) (fun _ _ _ h => h) (Or.inl ⟨by rfl, ?_⟩) ?_ ?_
              rotate_left
              ·intro w'
               go_simp
               with_reducible rfl
              rotate_left
              ·simp only [Act.put, sA, sZ, sS, i64_w, i32_w]
               rfl
              refine pure_ (i := 5) (N := some 82) (v := ?_) (a' := ?_) (bl 25 55) rfl rfl (any_of HT_.out (by kernel_rfl)) (fun _ _ _ h => h) (Or.inl ⟨by rfl, ?_⟩) ?_ ?_
              rotate_left
              ·intro w'
               go_simp
               with_reducible rfl
              rotate_left
              ·simp only [Act.put, sA, sZ, sS, i64_w, i32_w]
               rfl
              refine pure_ (i := 6) (N := some 83) (v := ?_) (a' := ?_) (bl 25 119) rfl rfl (any_of HT_.out (by kernel_rfl)) (fun _ _ _ h => h) (Or.inl ⟨by rfl, ?_⟩) ?_ ?_
              rotate_left
              ·intro w'
               go_simp
               with_reducible rfl
              rotate_left
              ·simp only [Act.put, sA, sZ, sS, i64_w, i32_w]
               rfl
              refine take_ (i := 3) (N := some 80) (v := ?_) (a' := ?_) (bl 25 127) rfl rfl (take_ofW HT_.out HW_.out (by kernel_rfl)) (fun _ _ _ h => h) (Or.inl ⟨by rfl, ?_⟩) hHeld ?_ ?_
              rotate_left
              ·rintro w' ⟨s0, s1, s2, s3⟩
               go_simp
               with_reducible rfl
              rotate_left
              ·simp only [Act.put, sA, sZ, sS, i64_w, i32_w]
               rfl
              refine take_ (i := 7) (N := some 84) (v := ?_) (a' := ?_) (bl 25 255) rfl rfl (take_ofW HT_.out HW_.out (by kernel_rfl)) (fun _ _ _ h => h) (Or.inl ⟨by rfl, ?_⟩) hHeld ?_ ?_
              rotate_left
              ·rintro w' ⟨s0, s1, s2, s3⟩
               go_simp
               with_reducible rfl
              rotate_left
              ·simp only [Act.put, sA, sZ, sS, i64_w, i32_w]
               rfl
              refine pure_ (i := 8) (N := some 85) (v := ?_) (a' := ?_) (bl 25 511) rfl rfl (any_of HT_.out (by kernel_rfl)) (fun _ _ _ h => h) (Or.inl ⟨by rfl, ?_⟩) ?_ ?_
              rotate_left
              ·intro w'
               go_simp
               with_reducible rfl
              rotate_left
              ·simp only [Act.put, sA, sZ, sS, i64_w, i32_w]
               rfl
              refine pure_ (i := 9) (N := some 86) (v := ?_) (a' := ?_) (bl 25 1023) rfl rfl (any_of HT_.out (by kernel_rfl)) (fun _ _ _ h => h) (Or.inl ⟨by rfl, ?_⟩) ?_ ?_
              rotate_left
              ·intro w'
               go_simp
               with_reducible rfl
              rotate_left
              ·simp only [Act.put, sA, sZ, sS, i64_w, i32_w]
               rfl
              refine pure_ (i := 10) (N := some 87) (v := ?_) (a' := ?_) (bl 25 2047) rfl rfl (any_of HT_.out (by kernel_rfl)) (fun _ _ _ h => h) (Or.inl ⟨by rfl, ?_⟩) ?_ ?_
              rotate_left
              ·intro w'
               go_simp
               with_reducible rfl
              rotate_left
              ·simp only [Act.put, sA, sZ, sS, i64_w, i32_w]
               rfl
              refine pure_ (i := 11) (N := some 88) (v := ?_) (a' := ?_) (bl 25 4095) rfl rfl (any_of HT_.out (by kernel_rfl)) (fun _ _ _ h => h) (Or.inl ⟨by rfl, ?_⟩) ?_ ?_
              rotate_left
              ·intro w'
               go_simp
               with_reducible rfl
              rotate_left
              ·simp only [Act.put, sA, sZ, sS, i64_w, i32_w]
               rfl
              refine pure_ (i := 12) (N := some 89) (v := ?_) (a' := ?_) (bl 25 8191) rfl rfl (any_of HT_.out (by kernel_rfl)) (fun _ _ _ h => h) (Or.inl ⟨by rfl, ?_⟩) ?_ ?_
              rotate_left
              ·intro w'
               go_simp
               with_reducible rfl
              rotate_left
              ·simp only [Act.put, sA, sZ, sS, i64_w, i32_w]
               rfl
              refine pure_ (i := 13) (N := some 90) (v := undef) (a' := ?_) (bl 25 16383) rfl rfl (any_of HT_.out (by kernel_rfl)) (fun _ _ _ h => h) (Or.inr ⟨by rfl, rfl⟩) ?_ ?_
              rotate_left
              ·simp only [Act.put, sA, sZ, sS, i64_w, i32_w]
               rfl
              refine pure_ (i := 14) (N := some 91) (v := undef) (a' := ?_) (bl 25 32767) rfl rfl (any_of HT_.out (by kernel_rfl)) (fun _ _ _ h => h) (Or.inr ⟨by rfl, rfl⟩) ?_ ?_
              rotate_left
              ·simp only [Act.put, sA, sZ, sS, i64_w, i32_w]
               rfl
              refine pure_ (i := 15) (N := some 92) (v := undef) (a' := ?_) (bl 25 65535) rfl rfl (any_of HT_.out (by kernel_rfl)) (fun _ _ _ h => h) (Or.inr ⟨by rfl, rfl⟩) ?_ ?_
              rotate_left
              ·simp only [Act.put, sA, sZ, sS, i64_w, i32_w]
               rfl
              refine pure_ (i := 16) (N := some 93) (v := undef) (a' := ?_) (bl 25 131071) rfl rfl (any_of HT_.out (by kernel_rfl)) (fun _ _ _ h => h) (Or.inr ⟨by rfl, rfl⟩) ?_ ?_
              rotate_left
              ·simp only [Act.put, sA, sZ, sS, i64_w, i32_w]
               rfl
              refine pure_ (i := 17) (N := some 94) (v := undef) (a' := ?_) (bl 25 262143) rfl rfl (any_of HT_.out (by kernel_rfl)) (fun _ _ _ h => h) (Or.inr ⟨by rfl, rfl⟩) ?_ ?_
              rotate_left
              ·simp only [Act.put, sA, sZ, sS, i64_w, i32_w]
               rfl
              refine pure_ (i := 18) (N := some 95) (v := undef) (a' := ?_) (bl 25 524287) rfl rfl (any_of HT_.out (by kernel_rfl)) (fun _ _ _ h => h) (Or.inr ⟨by rfl, rfl⟩) ?_ ?_
              rotate_left
              ·simp only [Act.put, sA, sZ, sS, i64_w, i32_w]
               rfl
              refine pure_ (i := 19) (N := some 96) (v := undef) (a' := ?_) (bl 25 1048575) rfl rfl (any_of HT_.out (by kernel_rfl)) (fun _ _ _ h => h) (Or.inr ⟨by rfl, rfl⟩) ?_ ?_
              rotate_left
              ·simp only [Act.put, sA, sZ, sS, i64_w, i32_w]
               rfl
              refine pure_ (i := 20) (N := some 97) (v := undef) (a' := ?_) (bl 25 2097151) rfl rfl (any_of HT_.out (by kernel_rfl)) (fun _ _ _ h => h) (Or.inr ⟨by rfl, rfl⟩) ?_ ?_
              rotate_left
              ·simp only [Act.put, sA, sZ, sS, i64_w, i32_w]
               rfl
              refine pure_ (i := 21) (N := some 98) (v := undef) (a' := ?_) (bl 25 4194303) rfl rfl (any_of HT_.out (by kernel_rfl)) (fun _ _ _ h => h) (Or.inr ⟨by rfl, rfl⟩) ?_ ?_
              rotate_left
              ·simp only [Act.put, sA, sZ, sS, i64_w, i32_w]
               rfl
              refine pure_ (i := 22) (N := some 99) (v := undef) (a' := ?_) (bl 25 8388607) rfl rfl (any_of HT_.out (by kernel_rfl)) (fun _ _ _ h => h) (Or.inr ⟨by rfl, rfl⟩) ?_ ?_
              rotate_left
              ·simp only [Act.put, sA, sZ, sS, i64_w, i32_w]
               rfl
              refine pure_ (i := 23) (N := some 100) (v := ?_) (a' := ?_) (bl 25 16777215) rfl rfl (any_of HT_.out (by kernel_rfl)) (fun _ _ _ h => h) (Or.inl ⟨by rfl, ?_⟩) ?_ ?_
              rotate_left
              ·intro w'
               go_simp
               with_reducible rfl
              rotate_left
              ·simp only [Act.put, sA, sZ, sS, i64_w, i32_w]
               rfl
              refine pure_ (i := 24) (N := some 101) (v := ?_) (a' := ?_) (bl 25 33554431) rfl rfl (any_of HT_.out (by kernel_rfl)) (fun _ _ _ h => h) (Or.inl ⟨by rfl, ?_⟩) ?_ ?_
              rotate_left
              ·intro w'
               go_simp
               with_reducible rfl
              rotate_left
              ·simp only [Act.put, sA, sZ, sS, i64_w, i32_w]
               rfl
              refine done_ (done_of HT_.out (by kernel_rfl)) ?_
              try go_wp2
              go_roundg k3
              case measure => have := HK1.out; have := HJ20.out; have := HK3.out; omega
              case rel => exact ⟨(wrap64 (x18_3 + 1)), (by first | rfl | (simp; done) | (simp [*]; done)), H', ⟨by have := HK1.out; have := HJ20.out; have := HK3.out; omega⟩, ⟨by (with_reducible repeat (first | apply Ra | apply Rn | apply Rd)); exact HO_11.out⟩, ⟨by (with_reducible repeat (first | apply Ra | apply Rn | apply Rd)); exact HO_12.out⟩, ⟨by (with_reducible repeat (first | apply Ra | apply Rn | apply Rd)); exact HO_14.out⟩, ⟨by (with_reducible repeat (first | apply Ra | apply Rn | apply Rd)); exact HO_16.out⟩, ⟨by repeat (first | (with_reducible first | exact HB.out | apply lA | apply lN | apply lD) | exact HB.out)⟩⟩
           ·rw [if_neg c36] at H
            exact absurd H (by simp)
          ·rw [if_neg c35] at H
           exact absurd H (by simp)
         ·rw [if_neg c34] at H
          have c34b0 : decide (x18_3 < (t114.length : Int)) = false := decide_eq_false c34
          clear c34
          by_cases c55 : t102 = 0
          ·rw [if_pos c55] at H
           exact absurd H (by simp)
          ·rw [if_neg c55] at H
           have c55b0 : (t102 == 0) = false := beq_eq_false_iff_ne.mpr c55
           have c55b1 : (t102 != 0) = true := bne_iff_ne.mpr c55
           by_cases c56 : t101 = true
           ·subst c56
            have H1 : ((graph_Parts.f k3 t102 t103).bind fun t126 => ((graph_Parts.f k3 t102 x12_1).bind fun t129 => ((lambrequinref10_Lists.f k3 t126 t129).bind fun t132 => (if t132 = true then ((graph_Path.f k3 t102 t103 (Int.tmod (wrap64 (a2)) t102) (Int.tmod (wrap64 (a3)) t102)).bind fun t133 => ((graph_Path.f k3 t102 x12_1 (Int.tmod (wrap64 (a2)) t102) (Int.tmod (wrap64 (a3)) t102)).bind fun t136 => ((lambrequinref10_Ints.f k3 t133 t136).bind fun t139 => (some t139)))) else (some false))))) = some r := by rw [if_pos rfl] at H; exact H
            clear H
            have H := H1
            clear H1
            replace H := Option.bind_eq_some_iff.mp H
            obtain ⟨t126, A570, H⟩ := H
            replace H : ((graph_Parts.f k3 t102 x12_1).bind fun t129 => ((lambrequinref10_Lists.f k3 t126 t129).bind fun t132 => (if t132 = true then ((graph_Path.f k3 t102 t103 (Int.tmod (wrap64 (a2)) t102) (Int.tmod (wrap64 (a3)) t102)).bind fun t133 => ((graph_Path.f k3 t102 x12_1 (Int.tmod (wrap64 (a2)) t102) (Int.tmod (wrap64 (a3)) t102)).bind fun t136 => ((lambrequinref10_Ints.f k3 t133 t136).bind fun t139 => (some t139)))) else (some false)))) = some r := H
            have A57 := am A570
            clear A570
            replace H := Option.bind_eq_some_iff.mp H
            obtain ⟨t129, A580, H⟩ := H
            replace H : ((lambrequinref10_Lists.f k3 t126 t129).bind fun t132 => (if t132 = true then ((graph_Path.f k3 t102 t103 (Int.tmod (wrap64 (a2)) t102) (Int.tmod (wrap64 (a3)) t102)).bind fun t133 => ((graph_Path.f k3 t102 x12_1 (Int.tmod (wrap64 (a2)) t102) (Int.tmod (wrap64 (a3)) t102)).bind fun t136 => ((lambrequinref10_Ints.f k3 t133 t136).bind fun t139 => (some t139)))) else (some false))) = some r := H
            have A58 := am A580
            clear A580
            replace H := Option.bind_eq_some_iff.mp H
            obtain ⟨t132, A590, H⟩ := H
            replace H : (if t132 = true then ((graph_Path.f k3 t102 t103 (Int.tmod (wrap64 (a2)) t102) (Int.tmod (wrap64 (a3)) t102)).bind fun t133 => ((graph_Path.f k3 t102 x12_1 (Int.tmod (wrap64 (a2)) t102) (Int.tmod (wrap64 (a3)) t102)).bind fun t136 => ((lambrequinref10_Ints.f k3 t133 t136).bind fun t139 => (some t139)))) else (some false)) = some r := H
            have A59 := am A590
            clear A590
            by_cases c60 : t132 = true
            ·subst c60
             have H1 : ((graph_Path.f k3 t102 t103 (Int.tmod (wrap64 (a2)) t102) (Int.tmod (wrap64 (a3)) t102)).bind fun t133 => ((graph_Path.f k3 t102 x12_1 (Int.tmod (wrap64 (a2)) t102) (Int.tmod (wrap64 (a3)) t102)).bind fun t136 => ((lambrequinref10_Ints.f k3 t133 t136).bind fun t139 => (some t139)))) = some r := by rw [if_pos rfl] at H; exact H
             clear H
             have H := H1
             clear H1
             replace H := Option.bind_eq_some_iff.mp H
             obtain ⟨t133, A610, H⟩ := H
             replace H : ((graph_Path.f k3 t102 x12_1 (Int.tmod (wrap64 (a2)) t102) (Int.tmod (wrap64 (a3)) t102)).bind fun t136 => ((lambrequinref10_Ints.f k3 t133 t136).bind fun t139 => (some t139))) = some r := H
             have A61 := am A610
             clear A610
             replace H := Option.bind_eq_some_iff.mp H
             obtain ⟨t136, A620, H⟩ := H
             replace H : ((lambrequinref10_Ints.f k3 t133 t136).bind fun t139 => (some t139)) = some r := H
             have A62 := am A620
             clear A620
             replace H := Option.bind_eq_some_iff.mp H
             obtain ⟨t139, A630, H⟩ := H
             replace H : (some t139) = some r := H
             have A63 := am A630
             clear A630
             obtain rfl := Option.some.inj H
             obtain ⟨Ao64, co64, eo64⟩ := Kd.R_slice HO_14.out
             (first | subst eo64 | (injection eo64 with f1_ f2_ f3_; have f4_ := f1_.symm; have f5_ := f3_.symm; clear f1_ f2_ f3_; subst f4_; subst f5_))
             go_wp2_with (first | (go_at_call 18; (with_reducible refine (graph_Parts.calls k3 t102 _ _ t103 t126 _ ?side1 ?side2 A57.out).mono ?_); (case side1 => repeat (first | exact (Kd.R_reads' HO_11.out).2.2 | (with_reducible refine Kd.C_alloc ?_ _) | (with_reducible refine Kd.C_drewN ?_ _) | (with_reducible refine Kd.C_drew ?_))); (case side2 => exact (Kd.R_reads' HO_11.out).2.1); rintro e w65 ⟨v127, rfl, ho0, hb⟩; replace HO_11 := am (Kd.R_below (by (with_reducible repeat (first | apply Ra | apply Rn | apply Rd)); exact HO_11.out) hb); replace HO_12 := am (Kd.R_below (by (with_reducible repeat (first | apply Ra | apply Rn | apply Rd)); exact HO_12.out) hb); replace HO_14 := am (Kd.R_below (by (with_reducible repeat (first | apply Ra | apply Rn | apply Rd)); exact HO_14.out) hb); replace HO_16 := am (Kd.R_below (by (with_reducible repeat (first | apply Ra | apply Rn | apply Rd)); exact HO_16.out) hb); have HO128 := am (Kd.S_lower ho0 (below_size (by repeat (first | (with_reducible first | exact HB.out | apply lA | apply lN | apply lD) | exact HB.out)))); replace HB := am (below_step (by repeat (first | (with_reducible first | exact HB.out | apply lA | apply lN | apply lD) | exact HB.out)) hb); (try clear hb); (try clear hb2); (try clear hk); (try clear hi); (try clear ho0)) | (go_at_call 18; (with_reducible refine (graph_Parts.calls k3 t102 _ _ x12_1 t129 _ ?side1 ?side2 A58.out).mono ?_); (case side1 => repeat (first | exact (Kd.R_reads' HO_12.out).2.2 | (with_reducible refine Kd.C_alloc ?_ _) | (with_reducible refine Kd.C_drewN ?_ _) | (with_reducible refine Kd.C_drew ?_))); (case side2 => exact (Kd.R_reads' HO_12.out).2.1); rintro e w66 ⟨v130, rfl, ho0, hb⟩; replace HO_11 := am (Kd.R_below (by (with_reducible repeat (first | apply Ra | apply Rn | apply Rd)); exact HO_11.out) hb); replace HO_12 := am (Kd.R_below (by (with_reducible repeat (first | apply Ra | apply Rn | apply Rd)); exact HO_12.out) hb); replace HO_14 := am (Kd.R_below (by (with_reducible repeat (first | apply Ra | apply Rn | apply Rd)); exact HO_14.out) hb); replace HO_16 := am (Kd.R_below (by (with_reducible repeat (first | apply Ra | apply Rn | apply Rd)); exact HO_16.out) hb); have HO131 := am (Kd.S_lower (Kd.S_new' ho0 (Kd.S_lt (by (with_reducible repeat (first | apply Kd.S_alloc | apply Kd.S_drewN | apply Kd.S_drew)); exact HO128.out))) (below_size (by repeat (first | (with_reducible first | exact HB.out | apply lA | apply lN | apply lD) | exact HB.out)))); replace HO128 := am (Kd.S_elder' (by (with_reducible repeat (first | apply Kd.S_alloc | apply Kd.S_drewN | apply Kd.S_drew)); exact HO128.out) (Kd.S_base ho0) hb); replace HB := am (below_step (by repeat (first | (with_reducible first | exact HB.out | apply lA | apply lN | apply lD) | exact HB.out)) hb); (try clear hb); (try clear hb2); (try clear hk); (try clear hi); (try clear ho0); obtain ⟨Ao67, co67, eo67⟩ := Kd.S_slice HO128.out; subst eo67; obtain ⟨Ao68, co68, eo68⟩ := Kd.S_slice HO131.out; subst eo68) | (go_at_call 17; (with_reducible refine (lambrequinref10_Lists.calls k3 _ _ t126 _ _ t129 true _ ?side1 ?side2 ?side3 ?side4 A59.out).mono ?_); (case side1 => repeat (first | exact (Kd.S_reads' HO128.out).2.2 | (with_reducible refine Kd.C_alloc ?_ _) | (with_reducible refine Kd.C_drewN ?_ _) | (with_reducible refine Kd.C_drew ?_))); (case side2 => exact (Kd.S_reads' HO128.out).2.1); (case side3 => repeat (first | exact (Kd.S_reads' HO131.out).2.2 | (with_reducible refine Kd.C_alloc ?_ _) | (with_reducible refine Kd.C_drewN ?_ _) | (with_reducible refine Kd.C_drew ?_))); (case side4 => exact (Kd.S_reads' HO131.out).2.1); rintro e w' ⟨rfl, ⟨nd, rfl⟩⟩) | (go_at_call 20; (with_reducible refine (graph_Path.calls k3 t102 _ _ t103 (Int.tmod (wrap64 (a2)) t102) (Int.tmod (wrap64 (a3)) t102) t133 _ ?side1 ?side2 A61.out).mono ?_); (case side1 => repeat (first | exact (Kd.R_reads' HO_11.out).2.2 | (with_reducible refine Kd.C_alloc ?_ _) | (with_reducible refine Kd.C_drewN ?_ _) | (with_reducible refine Kd.C_drew ?_))); (case side2 => exact (Kd.R_reads' HO_11.out).2.1); rintro e w69 ⟨v134, rfl, ho0, hb⟩; replace HO_11 := am (Kd.R_below (by (with_reducible repeat (first | apply Ra | apply Rn | apply Rd)); exact HO_11.out) hb); replace HO_12 := am (Kd.R_below (by (with_reducible repeat (first | apply Ra | apply Rn | apply Rd)); exact HO_12.out) hb); replace HO_14 := am (Kd.R_below (by (with_reducible repeat (first | apply Ra | apply Rn | apply Rd)); exact HO_14.out) hb); replace HO_16 := am (Kd.R_below (by (with_reducible repeat (first | apply Ra | apply Rn | apply Rd)); exact HO_16.out) hb); replace HO128 := am (Kd.S_elder' (by (with_reducible repeat (first | apply Kd.S_alloc | apply Kd.S_drewN | apply Kd.S_drew)); exact HO128.out) (Kd.R_base ho0) hb); replace HO131 := am (Kd.S_elder' (by (with_reducible repeat (first | apply Kd.S_alloc | apply Kd.S_drewN | apply Kd.S_drew)); exact HO131.out) (Kd.R_base ho0) hb); have HO135 := am (Kd.R_lower ho0 (below_size (by repeat (first | (with_reducible first | exact HB.out | apply lA | apply lN | apply lD) | exact HB.out)))); replace HB := am (below_step (by repeat (first | (with_reducible first | exact HB.out | apply lA | apply lN | apply lD) | exact HB.out)) hb); (try clear hb); (try clear hb2); (try clear hk); (try clear hi); (try clear ho0)) | (go_at_call 20; (with_reducible refine (graph_Path.calls k3 t102 _ _ x12_1 (Int.tmod (wrap64 (a2)) t102) (Int.tmod (wrap64 (a3)) t102) t136 _ ?side1 ?side2 A62.out).mono ?_); (case side1 => repeat (first | exact (Kd.R_reads' HO_12.out).2.2 | (with_reducible refine Kd.C_alloc ?_ _) | (with_reducible refine Kd.C_drewN ?_ _) | (with_reducible refine Kd.C_drew ?_))); (case side2 => exact (Kd.R_reads' HO_12.out).2.1); rintro e w70 ⟨v137, rfl, ho0, hb⟩; replace HO_11 := am (Kd.R_below (by (with_reducible repeat (first | apply Ra | apply Rn | apply Rd)); exact HO_11.out) hb); replace HO_12 := am (Kd.R_below (by (with_reducible repeat (first | apply Ra | apply Rn | apply Rd)); exact HO_12.out) hb); replace HO_14 := am (Kd.R_below (by (with_reducible repeat (first | apply Ra | apply Rn | apply Rd)); exact HO_14.out) hb); replace HO_16 := am (Kd.R_below (by (with_reducible repeat (first | apply Ra | apply Rn | apply Rd)); exact HO_16.out) hb); replace HO128 := am (Kd.S_elder' (by (with_reducible repeat (first | apply Kd.S_alloc | apply Kd.S_drewN | apply Kd.S_drew)); exact HO128.out) (Kd.R_base ho0) hb); replace HO131 := am (Kd.S_elder' (by (with_reducible repeat (first | apply Kd.S_alloc | apply Kd.S_drewN | apply Kd.S_drew)); exact HO131.out) (Kd.R_base ho0) hb); have HO138 := am (Kd.R_lower (Kd.R_new' ho0 (Kd.R_lt (by (with_reducible repeat (first | apply Ra | apply Rn | apply Rd)); exact HO135.out))) (below_size (by repeat (first | (with_reducible first | exact HB.out | apply lA | apply lN | apply lD) | exact HB.out)))); replace HO135 := am (Kd.R_elder' (by (with_reducible repeat (first | apply Ra | apply Rn | apply Rd)); exact HO135.out) (Kd.R_base ho0) hb); replace HB := am (below_step (by repeat (first | (with_reducible first | exact HB.out | apply lA | apply lN | apply lD) | exact HB.out)) hb); (try clear hb); (try clear hb2); (try clear hk); (try clear hi); (try clear ho0); obtain ⟨Ao71, co71, eo71⟩ := Kd.R_slice HO135.out; subst eo71; obtain ⟨Ao72, co72, eo72⟩ := Kd.R_slice HO138.out; subst eo72) | (go_at_call 19; (with_reducible refine (lambrequinref10_Ints.calls k3 _ _ t133 _ _ t136 t139 _ ?side1 ?side2 ?side3 ?side4 A63.out).mono ?_); (case side1 => repeat (first | exact (Kd.R_reads' HO135.out).2.2 | (with_reducible refine Kd.C_alloc ?_ _) | (with_reducible refine Kd.C_drewN ?_ _) | (with_reducible refine Kd.C_drew ?_))); (case side2 => exact (Kd.R_reads' HO135.out).2.1); (case side3 => repeat (first | exact (Kd.R_reads' HO138.out).2.2 | (with_reducible refine Kd.C_alloc ?_ _) | (with_reducible refine Kd.C_drewN ?_ _) | (with_reducible refine Kd.C_drew ?_))); (case side4 => exact (Kd.R_reads' HO138.out).2.1); rintro e w' ⟨rfl, ⟨nd, rfl⟩⟩))
             go_ret
             exact ⟨by first | rfl | (simp [errW_none, errW_some] <;> rfl) | (simp [*, errW_none, errW_some] <;> rfl), by repeat (first | (with_reducible first | exact HB.out | apply lA | apply lN | apply lD) | exact HB.out)⟩
            ·replace c60 := Bool.eq_false_iff.mpr c60
             subst c60
             have H1 : (some false) = some r := by rw [if_neg (show ¬ (false = true) by decide)] at H; exact H
             clear H
             have H := H1
             clear H1
             obtain rfl := Option.some.inj H
             obtain ⟨Ao73, co73, eo73⟩ := Kd.R_slice HO_14.out
             (first | subst eo73 | (injection eo73 with f1_ f2_ f3_; have f4_ := f1_.symm; have f5_ := f3_.symm; clear f1_ f2_ f3_; subst f4_; subst f5_))
             go_wp2_with (first | (go_at_call 18; (with_reducible refine (graph_Parts.calls k3 t102 _ _ t103 t126 _ ?side1 ?side2 A57.out).mono ?_); (case side1 => repeat (first | exact (Kd.R_reads' HO_11.out).2.2 | (with_reducible refine Kd.C_alloc ?_ _) | (with_reducible refine Kd.C_drewN ?_ _) | (with_reducible refine Kd.C_drew ?_))); (case side2 => exact (Kd.R_reads' HO_11.out).2.1); rintro e w74 ⟨v127, rfl, ho0, hb⟩; replace HO_11 := am (Kd.R_below (by (with_reducible repeat (first | apply Ra | apply Rn | apply Rd)); exact HO_11.out) hb); replace HO_12 := am (Kd.R_below (by (with_reducible repeat (first | apply Ra | apply Rn | apply Rd)); exact HO_12.out) hb); replace HO_14 := am (Kd.R_below (by (with_reducible repeat (first | apply Ra | apply Rn | apply Rd)); exact HO_14.out) hb); replace HO_16 := am (Kd.R_below (by (with_reducible repeat (first | apply Ra | apply Rn | apply Rd)); exact HO_16.out) hb); have HO128 := am (Kd.S_lower ho0 (below_size (by repeat (first | (with_reducible first | exact HB.out | apply lA | apply lN | apply lD) | exact HB.out)))); replace HB := am (below_step (by repeat (first | (with_reducible first | exact HB.out | apply lA | apply lN | apply lD) | exact HB.out)) hb); (try clear hb); (try clear hb2); (try clear hk); (try clear hi); (try clear ho0)) | (go_at_call 18; (with_reducible refine (graph_Parts.calls k3 t102 _ _ x12_1 t129 _ ?side1 ?side2 A58.out).mono ?_); (case side1 => repeat (first | exact (Kd.R_reads' HO_12.out).2.2 | (with_reducible refine Kd.C_alloc ?_ _) | (with_reducible refine Kd.C_drewN ?_ _) | (with_reducible refine Kd.C_drew ?_))); (case side2 => exact (Kd.R_reads' HO_12.out).2.1); rintro e w75 ⟨v130, rfl, ho0, hb⟩; replace HO_11 := am (Kd.R_below (by (with_reducible repeat (first | apply Ra | apply Rn | apply Rd)); exact HO_11.out) hb); replace HO_12 := am (Kd.R_below (by (with_reducible repeat (first | apply Ra | apply Rn | apply Rd)); exact HO_12.out) hb); replace HO_14 := am (Kd.R_below (by (with_reducible repeat (first | apply Ra | apply Rn | apply Rd)); exact HO_14.out) hb); replace HO_16 := am (Kd.R_below (by (with_reducible repeat (first | apply Ra | apply Rn | apply Rd)); exact HO_16.out) hb); have HO131 := am (Kd.S_lower (Kd.S_new' ho0 (Kd.S_lt (by (with_reducible repeat (first | apply Kd.S_alloc | apply Kd.S_drewN | apply Kd.S_drew)); exact HO128.out))) (below_size (by repeat (first | (with_reducible first | exact HB.out | apply lA | apply lN | apply lD) | exact HB.out)))); replace HO128 := am (Kd.S_elder' (by (with_reducible repeat (first | apply Kd.S_alloc | apply Kd.S_drewN | apply Kd.S_drew)); exact HO128.out) (Kd.S_base ho0) hb); replace HB := am (below_step (by repeat (first | (with_reducible first | exact HB.out | apply lA | apply lN | apply lD) | exact HB.out)) hb); (try clear hb); (try clear hb2); (try clear hk); (try clear hi); (try clear ho0); obtain ⟨Ao76, co76, eo76⟩ := Kd.S_slice HO128.out; subst eo76; obtain ⟨Ao77, co77, eo77⟩ := Kd.S_slice HO131.out; subst eo77) | (go_at_call 17; (with_reducible refine (lambrequinref10_Lists.calls k3 _ _ t126 _ _ t129 false _ ?side1 ?side2 ?side3 ?side4 A59.out).mono ?_); (case side1 => repeat (first | exact (Kd.S_reads' HO128.out).2.2 | (with_reducible refine Kd.C_alloc ?_ _) | (with_reducible refine Kd.C_drewN ?_ _) | (with_reducible refine Kd.C_drew ?_))); (case side2 => exact (Kd.S_reads' HO128.out).2.1); (case side3 => repeat (first | exact (Kd.S_reads' HO131.out).2.2 | (with_reducible refine Kd.C_alloc ?_ _) | (with_reducible refine Kd.C_drewN ?_ _) | (with_reducible refine Kd.C_drew ?_))); (case side4 => exact (Kd.S_reads' HO131.out).2.1); rintro e w' ⟨rfl, ⟨nd, rfl⟩⟩))
             go_ret
             exact ⟨by first | rfl | (simp [errW_none, errW_some] <;> rfl) | (simp [*, errW_none, errW_some] <;> rfl), by repeat (first | (with_reducible first | exact HB.out | apply lA | apply lN | apply lD) | exact HB.out)⟩
           ·replace c56 := Bool.eq_false_iff.mpr c56
            subst c56
            have H1 : (some false) = some r := by rw [if_neg (show ¬ (false = true) by decide)] at H; exact H
            clear H
            have H := H1
            clear H1
            obtain rfl := Option.some.inj H
            obtain ⟨Ao78, co78, eo78⟩ := Kd.R_slice HO_14.out
            (first | subst eo78 | (injection eo78 with f1_ f2_ f3_; have f4_ := f1_.symm; have f5_ := f3_.symm; clear f1_ f2_ f3_; subst f4_; subst f5_))
            go_wp2
            go_ret
            exact ⟨by first | rfl | (simp [errW_none, errW_some] <;> rfl) | (simp [*, errW_none, errW_some] <;> rfl), by repeat (first | (with_reducible first | exact HB.out | apply lA | apply lN | apply lD) | exact HB.out)⟩
end Go.Proofs.Ytmlhnjonmjmhdaa.H
/- GraphOrder: in whatever order edges come, and however often, all is told alike -/
namespace Go.Proofs.Ytmlhnjonmjmhdaa.H
open Go.RowKit Go.Proofs.YtmlhnjonmjmhdaaW.PrintWords
theorem order_l1 {n : Nat} {es bk c : List IPair} {x2 x3 : Int} (hn : 0 < n) (hc : c.Pairwise lexLt) (hcl : c.length ≤ 1000000) (hl : es.length ≤ 1000000) (hb : cleanBad (n : Int) es = false) (hsame : graph_Clean.f (n : Int) es = graph_Clean.f (n : Int) bk) :
    ∀ (d : List IPair) (i : Nat), c.drop i = d → Ev (fun k => lambrequinlaw10_GraphOrder.l1 k x2 x3 true (n : Int) es bk c c (i : Int)) true
  | [], i, hd => by
    obtain ⟨p, hp, hp1, hp2⟩ := Parts_exl hl hb
    obtain ⟨q, hq, hq1⟩ := Path_ex hl hb (Int.tmod (wrap64 (x2)) n) (Int.tmod (wrap64 (x3)) n)
    refine Ev.step (fun k => by rw [lambrequinlaw10_GraphOrder.l1]) ?_
    refine Ev.neg (drop_end hd) (Ev.neg (by omega) (Ev.pos rfl ?_))
    refine Ev.bind hp (Ev.bind (Ev.congr (fun k => (Parts_same hsame k).symm) hp) (Ev.bind (Lists_refl p hp1 hp2) (Ev.pos rfl ?_)))
    exact Ev.bind hq (Ev.bind (Ev.congr (fun k => (Path_same hsame _ _ k).symm) hq) (Ev.bind (Ints_refl q (by omega)) (Ev.now _)))
  | y :: d, i, hd => by
    obtain ⟨h1, h2, h3, h4, h5⟩ := drop_more hd (by omega)
    have e1 : rd_T27 c (i : Int) = y := h3 _
    refine Ev.step (fun k => by rw [lambrequinlaw10_GraphOrder.l1]) ?_
    refine Ev.pos h1 (Ev.pos h2 (Ev.pos h1 (Ev.neg (by simp) ?_)))
    have next := order_l1 (x2 := x2) (x3 := x3) hn hc hcl hl hb hsame d (i + 1) h4
    rw [h5]
    by_cases hi : (i : Int) > 0
    · have e2 : wrap64 ((i : Int) - 1) = ((i - 1 : Nat) : Int) := by clear h5; unfold wrap64; omega
      have hil : i < c.length := by clear h5 e2; omega
      have hi' : i - 1 < i := by clear h5 e2; omega
      have p2 : i - 1 < c.length := Nat.lt_trans hi' hil
      have hlt : lexLt (c[i - 1]'p2) (c[i]'hil) := (List.pairwise_iff_getElem.1 hc) (i - 1) i p2 hil hi'
      have g1 : rd_T27 c ((i - 1 : Nat) : Int) = c[i - 1]'p2 := getD_at (List.getElem?_eq_getElem p2) _
      have g2 : rd_T27 c (i : Int) = c[i] := getD_at (List.getElem?_eq_getElem hil) _
      refine Ev.pos hi ?_
      rw [e2]
      refine Ev.pos (Int.natCast_nonneg _) (Ev.pos (Int.ofNat_lt.2 p2) (Ev.neg ?_ next))
      rw [g1, g2]
      unfold lexLt at hlt
      clear h5 e2 next
      simp
      omega
    · exact Ev.neg hi next
theorem order_l0 {n : Nat} {es : List IPair} {x2 x3 : Int} (hn : 0 < n) (hl : es.length ≤ 100) (hb : cleanBad (n : Int) es = false) : ∀ (m : Nat) (bk : List IPair), m ≤ es.length → bk.length ≤ 2 * (es.length - m) → (∀ e, e ∈ bk ↔ e ∈ es.drop m) →
    Ev (fun k => lambrequinlaw10_GraphOrder.l0 k x2 x3 true (n : Int) es bk ((m : Int) - 1)) true
  | 0, bk, hm, hbl, he => by
    have hsame : graph_Clean.f (n : Int) es = graph_Clean.f (n : Int) bk := Clean_same (by omega) (by omega) (fun e => (he e).symm)
    have hc : graph_Clean.f (n : Int) es = some (dd (sortL es), 0) := by unfold graph_Clean.f; rw [if_pos (by omega), hb]; rfl
    have hdl : (dd (sortL es)).length ≤ 1000000 := by
      have := dd_len (sortL es)
      rw [(sortL_perm es).length_eq] at this
      omega
    refine Ev.step (fun k => by rw [lambrequinlaw10_GraphOrder.l0]) ?_
    refine Ev.neg (by omega) (Ev.pure hc (Ev.pure (hsame ▸ hc) (Ev.pos rfl (Ev.pos rfl ?_))))
    refine Ev.step (fun k => by rw [lambrequinlaw10_GraphOrder.j1]) ?_
    refine Ev.neg (by simp) ?_
    exact order_l1 hn (dd_strict (sortL_pw es)) hdl (by omega) hb hsame _ 0 rfl
  | m + 1, bk, hm, hbl, he => by
    have e1 : wrap64 (((m + 1 : Nat) : Int) - 1 - 1) = (m : Int) - 1 := by unfold wrap64; omega
    have e2 : ((m + 1 : Nat) : Int) - 1 = (m : Int) := by omega
    have g : rd_T27 es (m : Int) = es[m] := getD_at (List.getElem?_eq_getElem (by omega)) _
    rw [e2] at e1 ⊢
    refine Ev.step (fun k => by rw [lambrequinlaw10_GraphOrder.l0]) ?_
    refine Ev.pos (by omega) (Ev.pos (by omega) (Ev.pos (by omega) (Ev.pure rfl (Ev.pos ?_ ?_))))
    · clear e1; simp only [List.length_cons, List.length_nil]; omega
    · rw [e1, g]
      refine order_l0 hn hl hb m _ (by omega) (by simp only [List.length_append, List.length_cons, List.length_nil]; clear e1; omega) (fun e => ?_)
      have hd : es.drop m = es[m] :: es.drop (m + 1) := List.drop_eq_getElem_cons (by omega)
      rw [hd, List.mem_append, he e]
      constructor
      · rintro (h | h)
        · exact List.mem_cons_of_mem _ h
        · have h' : e = es[m] := by simpa using h
          exact h' ▸ List.mem_cons_self
      · intro h
        rcases List.mem_cons.1 h with h | h
        · refine .inr ?_
          rw [h]
          simp
        · exact .inl h
theorem GraphOrder_ev (a0 : Int) (h0 : 0 ≤ a0) (h1 : a0 < 256) (l : List BPair) (hl : l.length ≤ 9223372036854775807) (hb : ∀ e ∈ l, byteP e) (a2 a3 : Int) : Ev (fun k => lambrequinlaw10_GraphOrder.f k a0 l a2 a3) true := by
  obtain ⟨n, es, hn, hn2, he, hel, hin⟩ := ends_ev a0 h0 h1 l hl hb
  unfold lambrequinlaw10_GraphOrder.f
  refine Ev.bind shown10_ev (Ev.bind he ?_)
  have e : wrap64 ((es.length : Int) - 1) = (es.length : Int) - 1 := by unfold wrap64; omega
  show Ev (fun k => lambrequinlaw10_GraphOrder.l0 k a2 a3 true (n : Int) es [] (wrap64 ((es.length : Int) - 1))) true
  rw [e]
  exact order_l0 hn hel (inE_bad hin (by omega)) es.length [] (Nat.le_refl _) (by simp) (fun e => by simp)
theorem GraphOrder_pure (a0 : Int) (w0 : (Lit.int .u8 a0).wf = true) (x1 : List BPair) (y1 : x1.length * 2 ≤ 140737488351232) (b1 : x1.length ≤ 9223372036854775807 ∧ ∀ y ∈ x1, bBPair y) (a2 : Int) (w2 : (Lit.int .u8 a2).wf = true) (a3 : Int) (w3 : (Lit.int .u8 a3).wf = true) :
    ∃ k, lambrequinlaw10_GraphOrder.f k a0 x1 a2 a3 = some true :=
  Ev.rounds (g := fun k => lambrequinlaw10_GraphOrder.f k a0 x1 a2 a3) (GraphOrder_ev a0 (byte_wf w0).1 (byte_wf w0).2 x1 b1.1 (bytes_of b1.2) a2 a3)
theorem GraphOrder_walk (w : World) (a0 : Int) (w0 : (Lit.int .u8 a0).wf = true) (x1 : (List BPair)) (A1 : Option Addr) (c1 : Nat) (l1 : x1.length ≤ c1) (g1 : Kd.C k45 w A1 x1.length x1) (y1 : x1.length * 2 ≤ 140737488351232) (b1 : x1.length ≤ 9223372036854775807 ∧ ∀ y ∈ x1, bBPair y) (a2 : Int) (w2 : (Lit.int .u8 a2).wf = true) (a3 : Int) (w3 : (Lit.int .u8 a3).wf = true) :
    Calls Try.prog 3 #[.int .u8 a0, .slice A1 x1.length c1, .int .u8 a2, .int .u8 a3] w fun e w' => e = .returned (.bool true) ∧ Below w.heap.size w w' := by
  obtain ⟨k, h⟩ := GraphOrder_pure a0 w0 x1 y1 b1 a2 w2 a3 w3
  exact (lambrequinlaw10_GraphOrder.calls k a0 A1 c1 x1 a2 a3 true w g1 l1 h).mono (fun e w' h' => ⟨h'.1, h'.2⟩)
end Go.Proofs.Ytmlhnjonmjmhdaa.H
namespace Go.Proofs.Ytmlhnjonmjmhdaa.graphOrder
open Go.ChangeShapes Go.WideShapes Go.ChangeAt Go.RowKit Go.Proofs.Ytmlhnjonmjmhdaa.H Go.Proofs.YtmlhnjonmjmhdaaW.PrintWords
open Go.ChangeMaps (open_string shut_string)
theorem own : ownKnob Try.prog.godebug = none := by kernel_rfl
theorem laidOut : laidOutB Try.prog = true := by kernel_rfl
set_option maxRecDepth 100000 in
theorem lifted (os : Os) (started : os.Started) (H : Type) (enc : TypeId × Value → H) :
    ReturnsInHanded {} Try.checked os 3 .any (Rows.graphOrderSpec.pre6 enc Try.prog Try.f3 Rows.graphOrderRow.domain false) (Rows.graphOrderSpec.post enc Try.prog Try.f3 false true false false) := by
  refine returnsInHanded_of_change_sized (C := Try.checked) own started (by kernel_rfl) Try.func3
    (ChangeSpec.witness6 (enc := enc) (C := Try.checked) false ⟨#[], #[.int .u8 0, .slice none 0 0, .int .u8 0, .int .u8 0], []⟩ 8 (by kernel_rfl) (by kernel_rfl) (by kernel_rfl) (by kernel_rfl)) ?_
  intro W base args ds gs before hval0 hW hcnd hsz0 _
  have hsz : (DataW.weightsEach Try.prog (Try.f3.params.toList ++ Rows.graphOrderSpec.plain.varTypes Try.prog) (ds ++ gs)).all (· ≤ reachBytes) = true := hsz0
  have hval : ∀ (j : Nat) t v, Try.f3.params[j]? = some t → args[j]? = some v → Value.okWide Try.prog W .any base t v := hval0
  have hW' := hW
  obtain ⟨p, q, hA0, hV, rfl, hfz, hnd⟩ := hW
  have hA : DataW.TrodAll enc Try.prog W 0 (fun _ => true) true Try.f3.params.toList args.toList ds p := hA0
  rw [Try.params3] at hA hval hsz
  obtain ⟨v0, vs0, d0, ds0, p0, q0, hargs, rfl, rfl, h0, r0⟩ := trodAll_cons hA
  obtain ⟨v1, vs1, d1, ds1, p1, q1, rfl, rfl, rfl, h1, r1⟩ := trodAll_cons r0
  obtain ⟨v2, vs2, d2, ds2, p2, q2, rfl, rfl, rfl, h2, r2⟩ := trodAll_cons r1
  obtain ⟨v3, vs3, d3, ds3, p3, q3, rfl, rfl, rfl, h3, r3⟩ := trodAll_cons r2
  obtain ⟨rfl, rfl, rfl⟩ := trodAll_nil r3
  obtain rfl : args = #[v0, v1, v2, v3] := by cases args; simp_all
  obtain ⟨rfl, rfl⟩ := trodVars_none hV
  obtain ⟨a0, rfl, rfl, rfl, w0⟩ := open_int Try.underlying5 (hval 0 5 v0 rfl rfl) h0
  have k1 := h1
  have lt1 : ∀ x ∈ p1, x.block < W.heap.size := by obtain ⟨m, hm⟩ := k1; exact DataW.trod_lt m _ _ _ hm
  obtain ⟨a1, len1, cap1, rfl⟩ := okWide_slice Try.underlying22 (hval 1 22 v1 rfl rfl)
  have y1 := sized_row hsz (j := 1) (t := 22) rfl rfl Try.underlying22 (B := 2) (by kernel_rfl) h1
  obtain ⟨x1, ⟨A1, c1, e1, l1, g1⟩, b1⟩ := (opens_slice Try.underlying22 (by kernel_rfl) opens_BPair 45).argB k1
  simp only [Value.cells, List.cons.injEq, and_true, Value.slice.injEq] at e1
  obtain ⟨rfl, rfl, rfl⟩ := e1
  obtain ⟨a2, rfl, rfl, rfl, w2⟩ := open_int Try.underlying5 (hval 2 5 v2 rfl rfl) h2
  obtain ⟨a3, rfl, rfl, rfl, w3⟩ := open_int Try.underlying5 (hval 3 5 v3 rfl rfl) h3
  clear hA0 hval0 hsz0 hsz
  refine (GraphOrder_walk W a0 w0 x1 a1 cap1 l1 g1 y1 b1 a2 w2 a3 w3).mono fun e W' ⟨he, bel⟩ => ?_
  subst he
  exact ⟨_, rfl, _, _, _, [], _, [], hW', trodAll_mk1 (shut_bool Try.underlying4 _), (trodAll_cons_mk (shut_int Try.underlying5 w0) (trodAll_cons_mk (Below.trod laidOut (by kernel_rfl) (of_decide_eq_true (by kernel_rfl)) k1 bel lt1) (trodAll_cons_mk (shut_int Try.underlying5 w2) (trodAll_cons_mk (shut_int Try.underlying5 w3) trodAll_mk0)))), rfl, bel.frame _, fun h => by cases h⟩
theorem over : Rows.graphOrderRow.holds Try.pinned (OpenSpec.ofChange Rows.graphOrderSpec) :=
  OpenClaim.holds_of_wide 3 Try.f3 rfl rfl rfl rfl rfl rfl rfl ⟨rfl, rfl, rfl, rfl, rfl⟩ rfl rfl rfl rfl rfl (by kernel_rfl) Try.func3 (by kernel_rfl)
    (of_decide_eq_true (by kernel_rfl)) (by unfold Func.isWrapper; first | (rw [if_pos (by decide +kernel)]; kernel_rfl) | (rw [if_neg (by decide +kernel)]; exact ⟨rfl, rfl⟩))
    (fun os started H enc _ => lifted os started H enc)
theorem proved : Rows.GraphOrderSaid := over
end Go.Proofs.Ytmlhnjonmjmhdaa.graphOrder
namespace Go.Proofs.Ytmlhnjonmjmhdaa
theorem graphOrder_holds : Rows.GraphOrderSaid := graphOrder.proved
#print axioms graphOrder_holds
end Go.Proofs.Ytmlhnjonmjmhdaa

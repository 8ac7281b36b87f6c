/- RowGraphTells of the seat's law GraphTells: the law holds, under the statement's own conditions. -/
import Derived.Test.YtmlhnjonmjmhdaaNXGraphTells
import Derived.Test.YtmlhnjonmjmhdaaNXGraphTells1
import Derived.Test.YtmlhnjonmjmhdaaNXGraphTells2
set_option linter.unusedVariables false
set_option linter.unusedSimpArgs false
set_option linter.unusedSectionVars false
namespace Go.Proofs.Ytmlhnjonmjmhdaa.H
open Go.RowKit Go.Proofs.YtmlhnjonmjmhdaaW.PrintWords Go.Proofs.YtmlhnjonmjmhdaaW.PrintLast Go.Proofs.YtmlhnjonmjmhdaaW.PrintMore
attribute [local go_sem] max2_int min2_int max_two min_two max_three min_three max_four min_four
mutual
def lambrequinref10_Path.j0 : Nat → Int → List (IPair) → Int → Int → Bool → Option (List Int)
 | 0, _, _, _, _, _ => none
 | k + 1, x0, x1, x2, x3, x38 => if x38 = true then (some ([] : List Int)) else (lambrequinref10_Path.l0 k x0 x1 x2 x3 ([] : List (IPair)) 0)
def lambrequinref10_Path.l0 : Nat → Int → List (IPair) → Int → Int → List (IPair) → Int → Option (List Int)
 | 0, _, _, _, _, _, _ => none
 | k + 1, x0, x1, x2, x3, x9, x10 => if x10 < (x1.length : Int) then (if 0 ≤ x10 then (if x9.length < 8796093022208 then (lambrequinref10_Path.l0 k x0 x1 x2 x3 (x9 ++ [(⟨(rd_T27 x1 x10).snd, (rd_T27 x1 x10).fst⟩ : IPair)]) (wrap64 (x10 + 1))) else (none)) else (none)) else ((lambrequinref10_Steps.f k x0 x9 x3).bind fun t107 => (if 0 ≤ x2 then (if x2 < (t107.length : Int) then (if (rd t107 x2) < 0 then (some ([] : List Int)) else (lambrequinref10_Path.l1 k x1 x3 t107 (([x2] : List Int)) x2)) else (none)) else (none)))
def lambrequinref10_Path.l1 : Nat → List (IPair) → Int → List Int → List Int → Int → Option (List Int)
 | 0, _, _, _, _, _ => none
 | k + 1, x1, x3, x11, x12, x13 => if x13 = x3 then (some x12) else (lambrequinref10_Path.l2 k x1 x3 x11 x12 x13 (-1) 0)
def lambrequinref10_Path.l2 : Nat → List (IPair) → Int → List Int → List Int → Int → Int → Int → Option (List Int)
 | 0, _, _, _, _, _, _, _ => none
 | k + 1, x1, x3, x11, x12, x13, x14, x15 => if x15 < (x1.length : Int) then (if 0 ≤ x15 then (if ((rd_T27 x1 x15).fst) = x13 then (if 0 ≤ ((rd_T27 x1 x15).snd) then (if ((rd_T27 x1 x15).snd) < (x11.length : Int) then (if 0 ≤ x13 then (if x13 < (x11.length : Int) then (if (rd x11 ((rd_T27 x1 x15).snd)) = (wrap64 ((rd x11 x13) - 1)) then (if x14 < 0 then (lambrequinref10_Path.l2 k x1 x3 x11 x12 x13 ((rd_T27 x1 x15).snd) (wrap64 (x15 + 1))) else (if ((rd_T27 x1 x15).snd) < x14 then (lambrequinref10_Path.l2 k x1 x3 x11 x12 x13 ((rd_T27 x1 x15).snd) (wrap64 (x15 + 1))) else (lambrequinref10_Path.l2 k x1 x3 x11 x12 x13 x14 (wrap64 (x15 + 1))))) else (lambrequinref10_Path.l2 k x1 x3 x11 x12 x13 x14 (wrap64 (x15 + 1)))) else (none)) else (none)) else (none)) else (none)) else (lambrequinref10_Path.l2 k x1 x3 x11 x12 x13 x14 (wrap64 (x15 + 1)))) else (none)) else (if x12.length < 17592186044416 then (lambrequinref10_Path.l1 k x1 x3 x11 (x12 ++ [x14]) x14) else (none))
end
def lambrequinref10_Path.f (k : Nat) (a0 : Int) (l1 : List (IPair)) (a2 : Int) (a3 : Int) : Option (List Int) := (lambrequinref10_may.f k a0 l1).bind fun t101 => (if t101 = true then (if a2 < 0 then (lambrequinref10_Path.j0 k a0 l1 a2 a3 true) else (if a2 ≥ a0 then (lambrequinref10_Path.j0 k a0 l1 a2 a3 true) else (if a3 < 0 then (lambrequinref10_Path.j0 k a0 l1 a2 a3 true) else (lambrequinref10_Path.j0 k a0 l1 a2 a3 (decide (a3 ≥ a0)))))) else (lambrequinref10_Path.j0 k a0 l1 a2 a3 true))
theorem lambrequinref10_Path.mono_l : ∀ k, (∀ y0 y1 y2 y3 y4, LeO (lambrequinref10_Path.j0 k y0 y1 y2 y3 y4) (lambrequinref10_Path.j0 (k + 1) y0 y1 y2 y3 y4)) ∧ (∀ y0 y1 y2 y3 y4 y5, LeO (lambrequinref10_Path.l0 k y0 y1 y2 y3 y4 y5) (lambrequinref10_Path.l0 (k + 1) y0 y1 y2 y3 y4 y5)) ∧ (∀ y0 y1 y2 y3 y4, LeO (lambrequinref10_Path.l1 k y0 y1 y2 y3 y4) (lambrequinref10_Path.l1 (k + 1) y0 y1 y2 y3 y4)) ∧ (∀ y0 y1 y2 y3 y4 y5 y6, LeO (lambrequinref10_Path.l2 k y0 y1 y2 y3 y4 y5 y6) (lambrequinref10_Path.l2 (k + 1) y0 y1 y2 y3 y4 y5 y6))
 | 0 => ⟨fun _ _ _ _ _ r h => by simp [lambrequinref10_Path.j0] at h, fun _ _ _ _ _ _ r h => by simp [lambrequinref10_Path.l0] at h, fun _ _ _ _ _ r h => by simp [lambrequinref10_Path.l1] at h, fun _ _ _ _ _ _ _ r h => by simp [lambrequinref10_Path.l2] at h⟩
 | k + 1 => by
  obtain ⟨ih0, ih1, ih2, ih3⟩ := lambrequinref10_Path.mono_l k
  refine ⟨?_, ?_, ?_, ?_⟩
  ·intro y0 y1 y2 y3 y4
   unfold lambrequinref10_Path.j0
   repeat' first
   | (with_reducible exact ih0 _ _ _ _ _)
   | (with_reducible exact ih1 _ _ _ _ _ _)
   | (with_reducible exact ih2 _ _ _ _ _)
   | (with_reducible exact ih3 _ _ _ _ _ _ _)
   | (with_reducible exact lambrequinref10_Steps.mono _ _ _ _)
   | (with_reducible exact lambrequinref10_may.mono _ _ _)
   | (with_reducible exact LeO.refl _)
   | (with_reducible exact LeO.none _)
   | (with_reducible refine LeO.ite ?_ ?_)
   | (with_reducible refine LeO.bind ?_ (fun _ => ?_))
   | exact ih0 _ _ _ _ _
   | exact ih1 _ _ _ _ _ _
   | exact ih2 _ _ _ _ _
   | exact ih3 _ _ _ _ _ _ _
   | exact lambrequinref10_Steps.mono _ _ _ _
   | exact lambrequinref10_may.mono _ _ _
   | exact LeO.none _
   | refine LeO.ite ?_ ?_
   | refine LeO.bind ?_ (fun _ => ?_)
  ·intro y0 y1 y2 y3 y4 y5
   unfold lambrequinref10_Path.l0
   repeat' first
   | (with_reducible exact ih0 _ _ _ _ _)
   | (with_reducible exact ih1 _ _ _ _ _ _)
   | (with_reducible exact ih2 _ _ _ _ _)
   | (with_reducible exact ih3 _ _ _ _ _ _ _)
   | (with_reducible exact lambrequinref10_Steps.mono _ _ _ _)
   | (with_reducible exact lambrequinref10_may.mono _ _ _)
   | (with_reducible exact LeO.refl _)
   | (with_reducible exact LeO.none _)
   | (with_reducible refine LeO.ite ?_ ?_)
   | (with_reducible refine LeO.bind ?_ (fun _ => ?_))
   | exact ih0 _ _ _ _ _
   | exact ih1 _ _ _ _ _ _
   | exact ih2 _ _ _ _ _
   | exact ih3 _ _ _ _ _ _ _
   | exact lambrequinref10_Steps.mono _ _ _ _
   | exact lambrequinref10_may.mono _ _ _
   | exact LeO.none _
   | refine LeO.ite ?_ ?_
   | refine LeO.bind ?_ (fun _ => ?_)
  ·intro y0 y1 y2 y3 y4
   unfold lambrequinref10_Path.l1
   repeat' first
   | (with_reducible exact ih0 _ _ _ _ _)
   | (with_reducible exact ih1 _ _ _ _ _ _)
   | (with_reducible exact ih2 _ _ _ _ _)
   | (with_reducible exact ih3 _ _ _ _ _ _ _)
   | (with_reducible exact lambrequinref10_Steps.mono _ _ _ _)
   | (with_reducible exact lambrequinref10_may.mono _ _ _)
   | (with_reducible exact LeO.refl _)
   | (with_reducible exact LeO.none _)
   | (with_reducible refine LeO.ite ?_ ?_)
   | (with_reducible refine LeO.bind ?_ (fun _ => ?_))
   | exact ih0 _ _ _ _ _
   | exact ih1 _ _ _ _ _ _
   | exact ih2 _ _ _ _ _
   | exact ih3 _ _ _ _ _ _ _
   | exact lambrequinref10_Steps.mono _ _ _ _
   | exact lambrequinref10_may.mono _ _ _
   | exact LeO.none _
   | refine LeO.ite ?_ ?_
   | refine LeO.bind ?_ (fun _ => ?_)
  ·intro y0 y1 y2 y3 y4 y5 y6
   unfold lambrequinref10_Path.l2
   repeat' first
   | (with_reducible exact ih0 _ _ _ _ _)
   | (with_reducible exact ih1 _ _ _ _ _ _)
   | (with_reducible exact ih2 _ _ _ _ _)
   | (with_reducible exact ih3 _ _ _ _ _ _ _)
   | (with_reducible exact lambrequinref10_Steps.mono _ _ _ _)
   | (with_reducible exact lambrequinref10_may.mono _ _ _)
   | (with_reducible exact LeO.refl _)
   | (with_reducible exact LeO.none _)
   | (with_reducible refine LeO.ite ?_ ?_)
   | (with_reducible refine LeO.bind ?_ (fun _ => ?_))
   | exact ih0 _ _ _ _ _
   | exact ih1 _ _ _ _ _ _
   | exact ih2 _ _ _ _ _
   | exact ih3 _ _ _ _ _ _ _
   | exact lambrequinref10_Steps.mono _ _ _ _
   | exact lambrequinref10_may.mono _ _ _
   | exact LeO.none _
   | refine LeO.ite ?_ ?_
   | refine LeO.bind ?_ (fun _ => ?_)
theorem lambrequinref10_Path.mono : ∀ a0 a1 a2 a3 k, LeO (lambrequinref10_Path.f k a0 a1 a2 a3) (lambrequinref10_Path.f (k + 1) a0 a1 a2 a3) := by
 intro a0 a1 a2 a3 k
 obtain ⟨ih0, ih1, ih2, ih3⟩ := lambrequinref10_Path.mono_l k
 unfold lambrequinref10_Path.f
 repeat' first
   | (with_reducible exact ih0 _ _ _ _ _)
   | (with_reducible exact ih1 _ _ _ _ _ _)
   | (with_reducible exact ih2 _ _ _ _ _)
   | (with_reducible exact ih3 _ _ _ _ _ _ _)
   | (with_reducible exact lambrequinref10_Steps.mono _ _ _ _)
   | (with_reducible exact lambrequinref10_may.mono _ _ _)
   | (with_reducible exact LeO.refl _)
   | (with_reducible exact LeO.none _)
   | (with_reducible refine LeO.ite ?_ ?_)
   | (with_reducible refine LeO.bind ?_ (fun _ => ?_))
   | exact ih0 _ _ _ _ _
   | exact ih1 _ _ _ _ _ _
   | exact ih2 _ _ _ _ _
   | exact ih3 _ _ _ _ _ _ _
   | exact lambrequinref10_Steps.mono _ _ _ _
   | exact lambrequinref10_may.mono _ _ _
   | exact LeO.none _
   | refine LeO.ite ?_ ?_
   | refine LeO.bind ?_ (fun _ => ?_)
def lambrequinref10_Path.T7 : Bool × List (List Nat × List Nat) := (true, [([], []), ([], []), ([], []), ([1, 2], [1, 2]), ([3], [3]), ([4], [4]), ([], []), ([], []), ([6, 7], [6, 7]), ([8], [8]), ([9], [9]), ([5, 10], [5, 10]), ([11], [11]), ([0, 12], [0, 12]), ([13, 13, 0, 1, 2, 3, 4, 5, 6, 7, 8, 9, 10, 11, 12, 13], [0, 13])])
def lambrequinref10_Path.B7 : List Nat := [0, 0, 0, 6, 14, 30, 0, 0, 192, 448, 960, 2046, 4094, 8191, 16383]
theorem lambrequinref10_Path.tab7 : rtab .any (opsOf Try.f25 7) = lambrequinref10_Path.T7 := by kernel_rfl
theorem lambrequinref10_Path.bits7 : waitsOk lambrequinref10_Path.T7.2 lambrequinref10_Path.B7 = true := by kernel_rfl
def lambrequinref10_Path.T19 : Bool × List (List Nat × List Nat) := (true, [([], []), ([], []), ([0, 1], [0, 1]), ([2], [2]), ([3], [3]), ([], []), ([4, 5], [4, 5]), ([6], [6]), ([7], [7]), ([7], [7]), ([8, 9, 7], [7, 8, 9]), ([10, 7], [7, 10]), ([7], [7]), ([7], [7]), ([12, 13, 7], [7, 12, 13]), ([14, 7], [7, 14]), ([15, 7], [7, 15]), ([11, 16, 7], [7, 11, 16]), ([7, 17], [7, 17]), ([18, 7], [18]), ([19], [19]), ([20, 19], [19, 20]), ([21, 19, 19], [19, 21]), ([22], [22]), ([22], [22]), ([23, 24, 22], [22, 23, 24]), ([22, 25, 19], [19, 22, 25]), ([19, 26], [19, 26])])
def lambrequinref10_Path.B19 : List Nat := [0, 0, 3, 7, 15, 0, 63, 127, 255, 255, 1023, 2047, 255, 255, 12543, 28927, 61695, 131071, 262143, 524287, 1048575, 2097151, 4194303, 8388607, 8388607, 33554431, 67108863, 134217727]
theorem lambrequinref10_Path.tab19 : rtab .any (opsOf Try.f25 19) = lambrequinref10_Path.T19 := by kernel_rfl
theorem lambrequinref10_Path.bits19 : waitsOk lambrequinref10_Path.T19.2 lambrequinref10_Path.B19 = true := by kernel_rfl
set_option maxHeartbeats 8000000 in
set_option maxRecDepth 100000 in
theorem lambrequinref10_Path.calls (k : Nat) (a0 : Int) (A1 : Option Addr) (c1 : Nat) (l1 : List (IPair)) (a2 : Int) (a3 : Int) (r : List Int) (w : World) (hr1 : Kd.C k27 w A1 l1.length l1) (hc1 : l1.length ≤ c1) (h : lambrequinref10_Path.f k a0 l1 a2 a3 = some r) :
  Calls Try.prog 25 #[.int .i64 a0, .slice A1 l1.length c1, .int .i64 a2, .int .i64 a3] w fun e w' => ∃ v0_ : Value, e = .returned (v0_) ∧ Kd.R (Kd.int .i64) 3 w' w.heap.size (fun _ => True) v0_ r ∧ Below w.heap.size w w' := by
 have hu27 := Try.underlying27
 have HR1 := am hr1
 have HC1 := am hc1
 clear hr1 hc1
 have HB := am (Below.refl w.heap.size w)
 have H : ((lambrequinref10_may.f k a0 l1).bind fun t101 => (if t101 = true then (if a2 < 0 then (lambrequinref10_Path.j0 k a0 l1 a2 a3 true) else (if a2 ≥ a0 then (lambrequinref10_Path.j0 k a0 l1 a2 a3 true) else (if a3 < 0 then (lambrequinref10_Path.j0 k a0 l1 a2 a3 true) else (lambrequinref10_Path.j0 k a0 l1 a2 a3 (decide (a3 ≥ a0)))))) else (lambrequinref10_Path.j0 k a0 l1 a2 a3 true))) = some r := h
 clear h
 have HC5 := am H
 clear H
 go_enter Try.func25, Try.ntmps25
 go_upto_region 1 with (fail)
 go_cut [38] (fun v38 wc => ∃ (kq : Nat) (x38_4 : Bool), v38 = .bool x38_4 ∧ Aside0 (lambrequinref10_Path.j0 kq a0 l1 a2 a3 x38_4 = some r) ∧ Aside0 (kq ≤ k) ∧ Aside0 (Below w.heap.size w wc))
 case first =>
  have H := HC5.out
  clear HC5
  replace H := Option.bind_eq_some_iff.mp H
  obtain ⟨t101, A60, H⟩ := H
  replace H : (if t101 = true then (if a2 < 0 then (lambrequinref10_Path.j0 k a0 l1 a2 a3 true) else (if a2 ≥ a0 then (lambrequinref10_Path.j0 k a0 l1 a2 a3 true) else (if a3 < 0 then (lambrequinref10_Path.j0 k a0 l1 a2 a3 true) else (lambrequinref10_Path.j0 k a0 l1 a2 a3 (decide (a3 ≥ a0)))))) else (lambrequinref10_Path.j0 k a0 l1 a2 a3 true)) = some r := H
  have A6 := am A60
  clear A60
  by_cases c7 : t101 = true
  ·subst c7
   have H1 : (if a2 < 0 then (lambrequinref10_Path.j0 k a0 l1 a2 a3 true) else (if a2 ≥ a0 then (lambrequinref10_Path.j0 k a0 l1 a2 a3 true) else (if a3 < 0 then (lambrequinref10_Path.j0 k a0 l1 a2 a3 true) else (lambrequinref10_Path.j0 k a0 l1 a2 a3 (decide (a3 ≥ a0)))))) = some r := by rw [if_pos rfl] at H; exact H
   clear H
   have H := H1
   clear H1
   by_cases c8 : a2 < 0
   ·rw [if_pos c8] at H
    have c8b0 : decide (a2 < 0) = true := decide_eq_true c8
    clear c8
    (first | rw [c8b0] | (simp only [i64_w, i32_w]; rw [c8b0]) | skip)
    have H' := am H
    clear H
    go_wp2_with (first | ((with_reducible refine gate_callee (f := 49) rfl ?_); refine goesL_ (some 19) rfl rfl Try.func49 (by kernel_rfl) rfl #[.int .i64 a0, .slice A1 l1.length c1] rfl (by (try simp only [List.map_toArray, List.map_cons, List.map_nil]); first | done | rfl | (simp only [List.length_drop, List.length_take]; rfl)) ?_; (with_reducible refine (lambrequinref10_may.calls k a0 _ _ l1 true _ ?side1 ?side2 A6.out).mono ?_); (case side1 => repeat (first | exact (Kd.C_below HR1.out HB.out) | (with_reducible refine Kd.C_alloc ?_ _) | (with_reducible refine Kd.C_drewN ?_ _) | (with_reducible refine Kd.C_drew ?_))); (case side2 => exact HC1.out); rintro e w' ⟨rfl, ⟨nd, rfl⟩⟩; refine ⟨_, rfl, ?_⟩))
    go_meet
    case rel => exact ⟨_, (true), (by first | rfl | (simp; done) | (simp [*]; done)), H', ⟨by first | omega | exact Nat.le_refl _⟩, ⟨by repeat (first | (with_reducible first | exact HB.out | apply lA | apply lN | apply lD) | exact HB.out)⟩⟩
   ·rw [if_neg c8] at H
    have c8b0 : decide (a2 < 0) = false := decide_eq_false c8
    clear c8
    (first | rw [c8b0] | (simp only [i64_w, i32_w]; rw [c8b0]) | skip)
    by_cases c9 : a2 ≥ a0
    ·rw [if_pos c9] at H
     have c9b0 : decide (a0 ≤ a2) = true := decide_eq_true c9
     clear c9
     have H' := am H
     clear H
     go_wp2_with (first | ((with_reducible refine gate_callee (f := 49) rfl ?_); refine goesL_ (some 19) rfl rfl Try.func49 (by kernel_rfl) rfl #[.int .i64 a0, .slice A1 l1.length c1] rfl (by (try simp only [List.map_toArray, List.map_cons, List.map_nil]); first | done | rfl | (simp only [List.length_drop, List.length_take]; rfl)) ?_; (with_reducible refine (lambrequinref10_may.calls k a0 _ _ l1 true _ ?side1 ?side2 A6.out).mono ?_); (case side1 => repeat (first | exact (Kd.C_below HR1.out HB.out) | (with_reducible refine Kd.C_alloc ?_ _) | (with_reducible refine Kd.C_drewN ?_ _) | (with_reducible refine Kd.C_drew ?_))); (case side2 => exact HC1.out); rintro e w' ⟨rfl, ⟨nd, rfl⟩⟩; refine ⟨_, rfl, ?_⟩))
     go_meet
     case rel => exact ⟨_, (true), (by first | rfl | (simp; done) | (simp [*]; done)), H', ⟨by first | omega | exact Nat.le_refl _⟩, ⟨by repeat (first | (with_reducible first | exact HB.out | apply lA | apply lN | apply lD) | exact HB.out)⟩⟩
    ·rw [if_neg c9] at H
     have c9b0 : decide (a0 ≤ a2) = false := decide_eq_false c9
     clear c9
     by_cases c10 : a3 < 0
     ·rw [if_pos c10] at H
      have c10b0 : decide (a3 < 0) = true := decide_eq_true c10
      clear c10
      have H' := am H
      clear H
      go_wp2_with (first | ((with_reducible refine gate_callee (f := 49) rfl ?_); refine goesL_ (some 19) rfl rfl Try.func49 (by kernel_rfl) rfl #[.int .i64 a0, .slice A1 l1.length c1] rfl (by (try simp only [List.map_toArray, List.map_cons, List.map_nil]); first | done | rfl | (simp only [List.length_drop, List.length_take]; rfl)) ?_; (with_reducible refine (lambrequinref10_may.calls k a0 _ _ l1 true _ ?side1 ?side2 A6.out).mono ?_); (case side1 => repeat (first | exact (Kd.C_below HR1.out HB.out) | (with_reducible refine Kd.C_alloc ?_ _) | (with_reducible refine Kd.C_drewN ?_ _) | (with_reducible refine Kd.C_drew ?_))); (case side2 => exact HC1.out); rintro e w' ⟨rfl, ⟨nd, rfl⟩⟩; refine ⟨_, rfl, ?_⟩))
      go_meet
      case rel => exact ⟨_, (true), (by first | rfl | (simp; done) | (simp [*]; done)), H', ⟨by first | omega | exact Nat.le_refl _⟩, ⟨by repeat (first | (with_reducible first | exact HB.out | apply lA | apply lN | apply lD) | exact HB.out)⟩⟩
     ·rw [if_neg c10] at H
      have c10b0 : decide (a3 < 0) = false := decide_eq_false c10
      clear c10
      have H' := am H
      clear H
      go_wp2_with (first | ((with_reducible refine gate_callee (f := 49) rfl ?_); refine goesL_ (some 19) rfl rfl Try.func49 (by kernel_rfl) rfl #[.int .i64 a0, .slice A1 l1.length c1] rfl (by (try simp only [List.map_toArray, List.map_cons, List.map_nil]); first | done | rfl | (simp only [List.length_drop, List.length_take]; rfl)) ?_; (with_reducible refine (lambrequinref10_may.calls k a0 _ _ l1 true _ ?side1 ?side2 A6.out).mono ?_); (case side1 => repeat (first | exact (Kd.C_below HR1.out HB.out) | (with_reducible refine Kd.C_alloc ?_ _) | (with_reducible refine Kd.C_drewN ?_ _) | (with_reducible refine Kd.C_drew ?_))); (case side2 => exact HC1.out); rintro e w' ⟨rfl, ⟨nd, rfl⟩⟩; refine ⟨_, rfl, ?_⟩))
      go_meet
      case rel => exact ⟨_, (decide (a3 ≥ a0)), (by first | rfl | (simp; done) | (simp [*]; done)), H', ⟨by first | omega | exact Nat.le_refl _⟩, ⟨by repeat (first | (with_reducible first | exact HB.out | apply lA | apply lN | apply lD) | exact HB.out)⟩⟩
  ·replace c7 := Bool.eq_false_iff.mpr c7
   subst c7
   have H1 : (lambrequinref10_Path.j0 k a0 l1 a2 a3 true) = some r := by rw [if_neg (show ¬ (false = true) by decide)] at H; exact H
   clear H
   have H := H1
   clear H1
   have H' := am H
   clear H
   go_wp2_with (first | ((with_reducible refine gate_callee (f := 49) rfl ?_); refine goesL_ (some 19) rfl rfl Try.func49 (by kernel_rfl) rfl #[.int .i64 a0, .slice A1 l1.length c1] rfl (by (try simp only [List.map_toArray, List.map_cons, List.map_nil]); first | done | rfl | (simp only [List.length_drop, List.length_take]; rfl)) ?_; (with_reducible refine (lambrequinref10_may.calls k a0 _ _ l1 false _ ?side1 ?side2 A6.out).mono ?_); (case side1 => repeat (first | exact (Kd.C_below HR1.out HB.out) | (with_reducible refine Kd.C_alloc ?_ _) | (with_reducible refine Kd.C_drewN ?_ _) | (with_reducible refine Kd.C_drew ?_))); (case side2 => exact HC1.out); rintro e w' ⟨rfl, ⟨nd, rfl⟩⟩; refine ⟨_, rfl, ?_⟩))
   go_meet
   case rel => exact ⟨_, (true), (by first | rfl | (simp; done) | (simp [*]; done)), H', ⟨by first | omega | exact Nat.le_refl _⟩, ⟨by repeat (first | (with_reducible first | exact HB.out | apply lA | apply lN | apply lD) | exact HB.out)⟩⟩
 case rest =>
  clear HC5
  try clear c1
  try clear c2
  try clear p2
  try clear c4
  try clear c7
  try clear c8
  try clear c8b0
  try clear c9
  try clear c9b0
  try clear c10
  try clear c10b0
  obtain ⟨kq, x38_4, rfl, HA, HJ4, HB⟩ := hcut
  cases kq with
  | zero => exact absurd HA.out (by simp [lambrequinref10_Path.j0])
  | succ kj4 =>
   have H := HA.out
   clear HA
   simp only [lambrequinref10_Path.j0] at H
   by_cases c11 : x38_4 = true
   ·subst c11
    have H1 : (some ([] : List Int)) = some r := by rw [if_pos rfl] at H; exact H
    clear H
    have H := H1
    clear H1
    obtain rfl := Option.some.inj H
    go_wp2
    go_ret
    exact ⟨_, by first | rfl | (simp [errW_none, errW_some] <;> rfl) | (simp [*, errW_none, errW_some] <;> rfl), by first | exact Kd.R_nil _ _ _ _ _ | exact Kd.N_nil _ _ _ _ _ | exact Kd.V_nil _ _ _ _ _ | exact Kd.Q_nil _ _ _ _ _ | exact Kd.S_nil _ _ _ _ _, by repeat (first | (with_reducible first | exact HB.out | apply lA | apply lN | apply lD) | exact HB.out)⟩
   ·replace c11 := Bool.eq_false_iff.mpr c11
    subst c11
    have H1 : (lambrequinref10_Path.l0 kj4 a0 l1 a2 a3 ([] : List (IPair)) 0) = some r := by rw [if_neg (show ¬ (false = true) by decide)] at H; exact H
    clear H
    have H := H1
    clear H1
    have H' := am H
    clear H
    go_wp2
    go_loopg [9, 10] kj4 (fun kq v9 v10 w' => ∃ (x9_2 : List (IPair)) (x10_2 : Int), v10 = .int .i64 x10_2 ∧ Aside0 (lambrequinref10_Path.l0 kq a0 l1 a2 a3 x9_2 x10_2 = some r) ∧ Aside0 (kq ≤ kj4) ∧ Aside0 (Kd.R k27 27 w' w.heap.size (fun _ => True) v9 x9_2) ∧ Aside0 (Below w.heap.size w w'))
    case atStart => exact ⟨(([] : List (IPair))), (0), (by first | rfl | (simp; done) | (simp [*]; done)), H', ⟨Nat.le_refl _⟩, ⟨by first | exact Kd.R_nil _ _ _ _ _ | exact Kd.N_nil _ _ _ _ _ | exact Kd.V_nil _ _ _ _ _ | exact Kd.Q_nil _ _ _ _ _ | exact Kd.S_nil _ _ _ _ _⟩, ⟨by repeat (first | (with_reducible first | exact HB.out | apply lA | apply lN | apply lD) | exact HB.out)⟩⟩
    case round =>
     clear H'
     try clear c1
     try clear c2
     try clear p2
     try clear c4
     try clear c7
     try clear c8
     try clear c8b0
     try clear c9
     try clear c9b0
     try clear c10
     try clear c10b0
     try clear c11
     try clear p2
     obtain ⟨x9_2, x10_2, rfl, HA, HK2, HO_9, HB⟩ := hrel
     cases gk with
     | zero => exact absurd HA.out (by simp [lambrequinref10_Path.l0])
     | succ k2 =>
      have H := HA.out
      clear HA
      simp only [lambrequinref10_Path.l0] at H
      by_cases c12 : x10_2 < (l1.length : Int)
      ·rw [if_pos c12] at H
       have c12b0 : decide (x10_2 < (l1.length : Int)) = true := decide_eq_true c12
       clear c12
       by_cases c13 : 0 ≤ x10_2
       ·rw [if_pos c13] at H
        have c13b0 : decide (0 ≤ x10_2) = true := decide_eq_true c13
        clear c13
        by_cases c14 : x9_2.length < 8796093022208
        ·rw [if_pos c14] at H
         have LMc14 := am c14
         clear c14
         obtain ⟨y104, hy104⟩ : ∃ y_ : List (IPair), y_ = (x9_2 ++ [(⟨(rd_T27 l1 x10_2).snd, (rd_T27 l1 x10_2).fst⟩ : IPair)]) := ⟨_, rfl⟩
         replace H : (lambrequinref10_Path.l0 k2 a0 l1 a2 a3 y104 (wrap64 (x10_2 + 1))) = some r := by first | (rw [hy104]; with_reducible exact H) | (have H2_ := (Option.bind_some _ _).symm.trans H; rw [hy104]; with_reducible exact H2_) | (have H2_ := (Option.bind_some _ _).symm.trans H; with_reducible exact H2_) | with_reducible exact H | (rw [hy104]; exact H) | exact H
         have Ny104 := am hy104
         clear hy104
         have H' := am H
         clear H
         try go_wp2
         replace HO_9 := am (Kd.R_drew HO_9.out)
         replace HB := am (below_drew1 HB.out)
         have p102 : 0 ≤ (x10_2 : Int) := of_decide_eq_true (by first | (with_reducible assumption) | assumption)
         have q102 : x10_2 < (l1.length : Int) := of_decide_eq_true (by first | (with_reducible assumption) | assumption)
         obtain ⟨ad102, e102, hx102_0, hx102_1⟩ := at_T27 HR1.out x10_2 p102 q102
         have hw102_1 := hx102_1
         have hw102_0 := hx102_0
         cases e102
         replace hx102_0 := (HB.out.cell (blt_ hx102_0)).trans hx102_0
         replace hx102_1 := (HB.out.cell (blt_ hx102_1)).trans hx102_1
         replace p102 := eq_true p102
         replace q102 := eq_true q102
         have p103 : 0 ≤ (x10_2 : Int) := of_decide_eq_true (by first | (with_reducible assumption) | assumption)
         have q103 : x10_2 < (l1.length : Int) := of_decide_eq_true (by first | (with_reducible assumption) | assumption)
         obtain ⟨ad103, e103, hx103_0, hx103_1⟩ := at_T27 HR1.out x10_2 p103 q103
         have hw103_1 := hx103_1
         have hw103_0 := hx103_0
         obtain rfl : ad102 = ad103 := (by injection e103)
         replace hx103_0 := (HB.out.cell (blt_ hx103_0)).trans hx103_0
         replace hx103_1 := (HB.out.cell (blt_ hx103_1)).trans hx103_1
         replace p103 := eq_true p103
         replace q103 := eq_true q103
         refine start_ (n := 15) (S := fun w' => w'.cell? (ad102.add ((x10_2).toNat * 2)) = some (.int .i64 ((rd_T27 l1 x10_2).fst)) ∧ w'.cell? ⟨(ad102.add ((x10_2).toNat * 2)).block, (ad102.add ((x10_2).toNat * 2)).off + 1, none⟩ = some (.int .i64 ((rd_T27 l1 x10_2).snd)) ∧ w'.cell? (ad102.add ((x10_2).toNat * 2)) = some (.int .i64 ((rd_T27 l1 x10_2).fst)) ∧ w'.cell? ⟨(ad102.add ((x10_2).toNat * 2)).block, (ad102.add ((x10_2).toNat * 2)).off + 1, none⟩ = some (.int .i64 ((rd_T27 l1 x10_2).snd))) (ds := []) (bl 15 0) (by kernel_rfl) rfl rfl ⟨((HB.out.cell (blt_ hw102_0)).trans hw102_0), ((HB.out.cell (blt_ hw102_1)).trans hw102_1), ((HB.out.cell (blt_ hw103_0)).trans hw103_0), ((HB.out.cell (blt_ hw103_1)).trans hw103_1)⟩ (fun hHeld => ?_); refine with_tabW lambrequinref10_Path.tab7 lambrequinref10_Path.bits7 (fun HT_ HW_ => ?_)
         generalize wr.drew = w15 at HO_9 HB hx102_0 hx102_1 hx103_0 hx103_1 hHeld ⊢
         refine pure_ (i := 0) (N := some 45) (v := ?_) (a' := ?_) (bl 15 1) rfl rfl (any_of HT_.out (by kernel_rfl)) (fun _ _ _ h => h) (Or.inl ⟨by rfl, ?_⟩) ?_ ?_
         rotate_left
         ·intro w'
          go_simp
          with_reducible rfl
         rotate_left
         ·simp only [Act.put, sA, sZ, sS, i64_w, i32_w]
          rfl
         refine pure_ (i := 1) (N := some 46) (v := ?_) (a' := ?_) (bl 15 3) rfl rfl (any_of HT_.out (by kernel_rfl)) (fun _ _ _ h => h) (Or.inl ⟨by rfl, ?_⟩) ?_ ?_
         rotate_left
         ·intro w'
          go_simp
          with_reducible rfl
         rotate_left
         ·simp only [Act.put, sA, sZ, sS, i64_w, i32_w]
          rfl
         refine pure_ (i := 2) (N := some 47) (v := ?_) (a' := ?_) (bl 15 7) rfl rfl (any_of HT_.out (by kernel_rfl)) (fun _ _ _ h => h) (Or.inl ⟨by rfl, ?_⟩) ?_ ?_
         rotate_left
         ·intro w'
          go_simp
          with_reducible rfl
         rotate_left
         ·simp only [Act.put, sA, sZ, sS, i64_w, i32_w]
          rfl
         refine pure_ (i := 3) (N := some 48) (v := ?_) (a' := ?_) (bl 15 15) rfl rfl (any_of HT_.out (by kernel_rfl)) (fun _ _ _ h => h) (Or.inl ⟨by rfl, ?_⟩) ?_ ?_
         rotate_left
         ·intro w'
          go_simp
          with_reducible rfl
         rotate_left
         ·simp only [Act.put, sA, sZ, sS, i64_w, i32_w]
          rfl
         refine pure_ (i := 4) (N := some 49) (v := ?_) (a' := ?_) (bl 15 31) rfl rfl (any_of HT_.out (by kernel_rfl)) (fun _ _ _ h => h) (Or.inl ⟨by rfl, ?_⟩) ?_ ?_
         rotate_left
         ·intro w'
          go_simp
          with_reducible rfl
         rotate_left
         ·simp only [Act.put, sA, sZ, sS, i64_w, i32_w]
          rfl
         refine pure_ (i := 6) (N := some 51) (v := ?_) (a' := ?_) (bl 15 95) rfl rfl (any_of HT_.out (by kernel_rfl)) (fun _ _ _ h => h) (Or.inl ⟨by rfl, ?_⟩) ?_ ?_
         rotate_left
         ·intro w'
          go_simp
          with_reducible rfl
         rotate_left
         ·simp only [Act.put, sA, sZ, sS, i64_w, i32_w]
          rfl
         refine pure_ (i := 7) (N := some 52) (v := ?_) (a' := ?_) (bl 15 223) rfl rfl (any_of HT_.out (by kernel_rfl)) (fun _ _ _ h => h) (Or.inl ⟨by rfl, ?_⟩) ?_ ?_
         rotate_left
         ·intro w'
          go_simp
          with_reducible rfl
         rotate_left
         ·simp only [Act.put, sA, sZ, sS, i64_w, i32_w]
          rfl
         refine pure_ (i := 8) (N := some 53) (v := ?_) (a' := ?_) (bl 15 479) rfl rfl (any_of HT_.out (by kernel_rfl)) (fun _ _ _ h => h) (Or.inl ⟨by rfl, ?_⟩) ?_ ?_
         rotate_left
         ·intro w'
          go_simp
          with_reducible rfl
         rotate_left
         ·simp only [Act.put, sA, sZ, sS, i64_w, i32_w]
          rfl
         refine pure_ (i := 9) (N := some 54) (v := ?_) (a' := ?_) (bl 15 991) rfl rfl (any_of HT_.out (by kernel_rfl)) (fun _ _ _ h => h) (Or.inl ⟨by rfl, ?_⟩) ?_ ?_
         rotate_left
         ·intro w'
          go_simp
          with_reducible rfl
         rotate_left
         ·simp only [Act.put, sA, sZ, sS, i64_w, i32_w]
          rfl
         refine take_ (i := 5) (N := some 50) (v := ?_) (a' := ?_) (bl 15 1023) rfl rfl (take_ofW HT_.out HW_.out (by kernel_rfl)) (fun _ _ _ h => h) (Or.inl ⟨by rfl, ?_⟩) hHeld ?_ ?_
         rotate_left
         ·rintro w' ⟨s0, s1, s2, s3⟩
          go_simp
          with_reducible rfl
         rotate_left
         ·simp only [Act.put, sA, sZ, sS, i64_w, i32_w]
          rfl
         refine take_ (i := 10) (N := some 55) (v := ?_) (a' := ?_) (bl 15 2047) rfl rfl (take_ofW HT_.out HW_.out (by kernel_rfl)) (fun _ _ _ h => h) (Or.inl ⟨by rfl, ?_⟩) hHeld ?_ ?_
         rotate_left
         ·rintro w' ⟨s0, s1, s2, s3⟩
          go_simp
          with_reducible rfl
         rotate_left
         ·simp only [Act.put, sA, sZ, sS, i64_w, i32_w]
          rfl
         refine pure_ (i := 11) (N := some 56) (v := ?_) (a' := ?_) (bl 15 4095) rfl rfl (any_of HT_.out (by kernel_rfl)) (fun _ _ _ h => h) (Or.inl ⟨by rfl, ?_⟩) ?_ ?_
         rotate_left
         ·intro w'
          go_simp
          with_reducible rfl
         rotate_left
         ·simp only [Act.put, sA, sZ, sS, i64_w, i32_w]
          rfl
         refine one_ (i := 12) (N := some 57) (bl 15 8191) rfl rfl (one_of HT_.out (by kernel_rfl)) (by decide) (fun K hK => ?_)
         refine value_ (w1 := ?_) (v := ?_) (by rfl) rfl ?_ ?_
         rotate_left 2
         ·go_simp
          constructor
          ·rfl
          ·rfl
         refine hK.out _ _ ⟨(World.cell?_alloc_lt _ _ _ (blt_ (((HB.out.cell (blt_ hw102_0)).trans hw102_0)))).trans (((HB.out.cell (blt_ hw102_0)).trans hw102_0)), (World.cell?_alloc_lt _ _ _ (blt_ (((HB.out.cell (blt_ hw102_1)).trans hw102_1)))).trans (((HB.out.cell (blt_ hw102_1)).trans hw102_1)), (World.cell?_alloc_lt _ _ _ (blt_ (((HB.out.cell (blt_ hw103_0)).trans hw103_0)))).trans (((HB.out.cell (blt_ hw103_0)).trans hw103_0)), (World.cell?_alloc_lt _ _ _ (blt_ (((HB.out.cell (blt_ hw103_1)).trans hw103_1)))).trans (((HB.out.cell (blt_ hw103_1)).trans hw103_1))⟩ (fun hHeld => ?_)
         clear hK K
         refine norm_ (a' := ?_) ?_ ?_
         rotate_left
         ·show Act.put _ (some 57) _ = _
          simp only [Act.put, sA, sZ, sS, i64_w, i32_w]
          rfl
         refine one_ (i := 13) (N := some 58) (bl 15 16383) rfl rfl (one_of HT_.out (by kernel_rfl)) (by decide) (fun K hK => ?_)
         refine Kd.R_append_step k27 (w0 := w) w.heap.size (by rfl) (.tmp 45) (.tmp 57) 24 27 (.agg #[(.int .i64 0), (.int .i64 0)]) 16 rfl Try.underlying24 info27 rfl (by decide) (by omega) u9 x9_2 (⟨(rd_T27 l1 x10_2).snd, (rd_T27 l1 x10_2).fst⟩ : IPair) [.int .i64 ((rd_T27 l1 x10_2).snd), .int .i64 ((rd_T27 l1 x10_2).fst)] (fun _ => True) (fun _ => False) rfl rfl ?aP (fun _ hk => hk.elim) ?aF ?aO ?aB ?aS ?aL ?_
         (case aP => exact k27_mkM _ _ _ (⟨(rd_T27 l1 x10_2).snd, (rd_T27 l1 x10_2).fst⟩ : IPair))
         (case aB => exact (by repeat (first | (with_reducible first | exact HB.out | apply lA | apply lN | apply lD) | exact HB.out)))
         (case aF => exact (fun _ _ => trivial))
         (case aO => exact (by (with_reducible repeat (first | apply Ra | apply Rn | apply Rd)); exact HO_9.out))
         (case aS => exact (below_size (by repeat (first | (with_reducible first | exact HB.out | apply lA | apply lN | apply lD) | exact HB.out))))
         (case aL => have := LMc14.out; omega)
         intro v105 w16 ho hb hg hat
         rw [← Ny104.out] at ho
         replace HB := am (hb)
         have HO106 := am (ho)
         clear HO_9
         clear ho hb hg hat
         refine hK.out _ _ ⟨((HB.out.cell (blt_ hw102_0)).trans hw102_0), ((HB.out.cell (blt_ hw102_1)).trans hw102_1), ((HB.out.cell (blt_ hw103_0)).trans hw103_0), ((HB.out.cell (blt_ hw103_1)).trans hw103_1)⟩ (fun hHeld => ?_)
         clear hK K
         refine norm_ (a' := ?_) ?_ ?_
         rotate_left
         ·show Act.put _ (some 58) _ = _
          simp only [Act.put, sA, sZ, sS, i64_w, i32_w]
          rfl
         refine pure_ (i := 14) (N := some 9) (v := ?_) (a' := ?_) (bl 15 32767) rfl rfl (any_of HT_.out (by kernel_rfl)) (fun _ _ _ h => h) (Or.inl ⟨by rfl, ?_⟩) ?_ ?_
         rotate_left
         ·intro w'
          go_simp
          with_reducible rfl
         rotate_left
         ·simp only [Act.put, sA, sZ, sS, i64_w, i32_w]
          rfl
         refine done_ (done_of HT_.out (by kernel_rfl)) ?_
         try go_wp2
         go_roundg k2
         case measure => have := HJ4.out; have := HK2.out; omega
         case rel => exact ⟨(y104), (wrap64 (x10_2 + 1)), (by first | rfl | (simp; done) | (simp [*]; done)), H', ⟨by have := HJ4.out; have := HK2.out; omega⟩, ⟨by (with_reducible repeat (first | apply Ra | apply Rn | apply Rd)); exact HO106.out⟩, ⟨by repeat (first | (with_reducible first | exact HB.out | apply lA | apply lN | apply lD) | exact HB.out)⟩⟩
        ·rw [if_neg c14] at H
         exact absurd H (by simp)
       ·rw [if_neg c13] at H
        exact absurd H (by simp)
      ·rw [if_neg c12] at H
       have c12b0 : decide (x10_2 < (l1.length : Int)) = false := decide_eq_false c12
       clear c12
       replace H := Option.bind_eq_some_iff.mp H
       obtain ⟨t107, A170, H⟩ := H
       replace H : (if 0 ≤ a2 then (if a2 < (t107.length : Int) then (if (rd t107 a2) < 0 then (some ([] : List Int)) else (lambrequinref10_Path.l1 k2 l1 a3 t107 (([a2] : List Int)) a2)) else (none)) else (none)) = some r := H
       have A17 := am A170
       clear A170
       by_cases c18 : 0 ≤ a2
       ·rw [if_pos c18] at H
        have c18b0 : decide (0 ≤ a2) = true := decide_eq_true c18
        clear c18
        by_cases c19 : a2 < (t107.length : Int)
        ·rw [if_pos c19] at H
         have c19b0 : decide (a2 < (t107.length : Int)) = true := decide_eq_true c19
         clear c19
         by_cases c20 : (rd t107 a2) < 0
         ·rw [if_pos c20] at H
          have c20b0 : decide ((rd t107 a2) < 0) = true := decide_eq_true c20
          clear c20
          obtain rfl := Option.some.inj H
          obtain ⟨Ao21, co21, eo21⟩ := Kd.R_slice HO_9.out
          subst eo21
          go_wp2_with (first | ((with_reducible refine gate_callee (f := 26) rfl ?_); refine goesL_ (some 62) rfl rfl Try.func26 (by kernel_rfl) rfl #[.int .i64 a0, .slice Ao21 x9_2.length co21, .int .i64 a3] rfl (by (try simp only [List.map_toArray, List.map_cons, List.map_nil]); first | done | rfl | (simp only [List.length_drop, List.length_take]; rfl)) ?_; (with_reducible refine (lambrequinref10_Steps.calls k2 a0 _ _ x9_2 a3 t107 _ ?side1 ?side2 A17.out).mono ?_); (case side1 => repeat (first | exact (Kd.R_reads' HO_9.out).2.2 | (with_reducible refine Kd.C_alloc ?_ _) | (with_reducible refine Kd.C_drewN ?_ _) | (with_reducible refine Kd.C_drew ?_))); (case side2 => exact (Kd.R_reads' HO_9.out).2.1); rintro e w22 ⟨v108, rfl, ho0, hb⟩; refine ⟨_, rfl, ?_⟩; replace HO_9 := am (Kd.R_below (by (with_reducible repeat (first | apply Ra | apply Rn | apply Rd)); exact HO_9.out) hb); have HO109 := am (Kd.R_lower ho0 (below_size (by repeat (first | (with_reducible first | exact HB.out | apply lA | apply lN | apply lD) | exact HB.out)))); replace HB := am (below_step (by repeat (first | (with_reducible first | exact HB.out | apply lA | apply lN | apply lD) | exact HB.out)) hb); (try clear hb); (try clear hb2); (try clear hk); (try clear hi); (try clear ho0); obtain ⟨Ao23, co23, eo23⟩ := Kd.R_slice HO109.out; subst eo23; have p110 : 0 ≤ (a2 : Int) := of_decide_eq_true (by first | (with_reducible assumption) | assumption); have q110 : a2 < (t107.length : Int) := of_decide_eq_true (by first | (with_reducible assumption) | assumption); obtain ⟨ad110, e110, hx110_0⟩ := Kd.at_int (Kd.R_reads' HO109.out).2.2 a2 p110 q110; cases e110; replace p110 := eq_true p110; replace q110 := eq_true q110))
          go_ret
          exact ⟨_, by first | rfl | (simp [errW_none, errW_some] <;> rfl) | (simp [*, errW_none, errW_some] <;> rfl), by first | exact Kd.R_nil _ _ _ _ _ | exact Kd.N_nil _ _ _ _ _ | exact Kd.V_nil _ _ _ _ _ | exact Kd.Q_nil _ _ _ _ _ | exact Kd.S_nil _ _ _ _ _, by repeat (first | (with_reducible first | exact HB.out | apply lA | apply lN | apply lD) | exact HB.out)⟩
         ·rw [if_neg c20] at H
          have c20b0 : decide ((rd t107 a2) < 0) = false := decide_eq_false c20
          clear c20
          obtain ⟨y111, hy111⟩ : ∃ y_ : List Int, y_ = (([a2] : List Int)) := ⟨_, rfl⟩
          replace H : (lambrequinref10_Path.l1 k2 l1 a3 t107 y111 a2) = some r := by first | (rw [hy111]; with_reducible exact H) | (have H2_ := (Option.bind_some _ _).symm.trans H; rw [hy111]; with_reducible exact H2_) | (have H2_ := (Option.bind_some _ _).symm.trans H; with_reducible exact H2_) | with_reducible exact H | (rw [hy111]; exact H) | exact H
          have Ny111 := am hy111
          clear hy111
          have H' := am H
          clear H
          obtain ⟨Ao24, co24, eo24⟩ := Kd.R_slice HO_9.out
          subst eo24
          go_wp2_with (first | ((with_reducible refine gate_callee (f := 26) rfl ?_); refine goesL_ (some 62) rfl rfl Try.func26 (by kernel_rfl) rfl #[.int .i64 a0, .slice Ao24 x9_2.length co24, .int .i64 a3] rfl (by (try simp only [List.map_toArray, List.map_cons, List.map_nil]); first | done | rfl | (simp only [List.length_drop, List.length_take]; rfl)) ?_; (with_reducible refine (lambrequinref10_Steps.calls k2 a0 _ _ x9_2 a3 t107 _ ?side1 ?side2 A17.out).mono ?_); (case side1 => repeat (first | exact (Kd.R_reads' HO_9.out).2.2 | (with_reducible refine Kd.C_alloc ?_ _) | (with_reducible refine Kd.C_drewN ?_ _) | (with_reducible refine Kd.C_drew ?_))); (case side2 => exact (Kd.R_reads' HO_9.out).2.1); rintro e w25 ⟨v108, rfl, ho0, hb⟩; refine ⟨_, rfl, ?_⟩; replace HO_9 := am (Kd.R_below (by (with_reducible repeat (first | apply Ra | apply Rn | apply Rd)); exact HO_9.out) hb); have HO109 := am (Kd.R_lower ho0 (below_size (by repeat (first | (with_reducible first | exact HB.out | apply lA | apply lN | apply lD) | exact HB.out)))); replace HB := am (below_step (by repeat (first | (with_reducible first | exact HB.out | apply lA | apply lN | apply lD) | exact HB.out)) hb); (try clear hb); (try clear hb2); (try clear hk); (try clear hi); (try clear ho0); obtain ⟨Ao26, co26, eo26⟩ := Kd.R_slice HO109.out; subst eo26; have p110 : 0 ≤ (a2 : Int) := of_decide_eq_true (by first | (with_reducible assumption) | assumption); have q110 : a2 < (t107.length : Int) := of_decide_eq_true (by first | (with_reducible assumption) | assumption); obtain ⟨ad110, e110, hx110_0⟩ := Kd.at_int (Kd.R_reads' HO109.out).2.2 a2 p110 q110; cases e110; replace p110 := eq_true p110; replace q110 := eq_true q110) | ((with_reducible refine gate_dst (N := 69) rfl ?_); refine Kd.R_lit (Kd.int .i64) _ 3 ?hg (N := 69) ?hd (xs := ([a2] : List Int)) (inner := [.int .i64 a2]) (ok := fun _ => True) (okp := fun _ => True) ?hr ?hp (fun _ hk => hk) trivial (Below.refl _ _) (Nat.le_refl _) (by simp) ?_; (case hd => rfl); (case hg => rfl); (case hr => first | (go_simp; done) | (go_simp; rfl)); (case hp => exact (Reps.one (show Kd.M (Kd.int .i64) _ _ _ a2 [.int .i64 a2] from rfl) (Reps.none _ _))); intro v112 w27 ho28 hb hg_ hnew_; clear hg_ hnew_; (first | rw [← Ny111.out] at ho28 | (simp only [Int.reduceToNat] at ho28; rw [← Ny111.out] at ho28)); replace HO_9 := am (Kd.R_below (by (with_reducible repeat (first | apply Ra | apply Rn | apply Rd)); exact HO_9.out) hb); have HO113 := am (Kd.R_lower (Kd.R_new' ho28 (Kd.R_lt (by (with_reducible repeat (first | apply Ra | apply Rn | apply Rd)); exact HO109.out))) (below_size (by repeat (first | (with_reducible first | exact HB.out | apply lA | apply lN | apply lD) | exact HB.out)))); replace HO109 := am (Kd.R_elder' (by (with_reducible repeat (first | apply Ra | apply Rn | apply Rd)); exact HO109.out) (Kd.R_base ho28) hb); replace HB := am (below_step (by repeat (first | (with_reducible first | exact HB.out | apply lA | apply lN | apply lD) | exact HB.out)) hb); clear hb ho28))
          go_loopg [12, 13] k2 (fun kq v12 v13 w' => ∃ (x12_3 : List Int) (x13_3 : Int), v13 = .int .i64 x13_3 ∧ Aside0 (lambrequinref10_Path.l1 kq l1 a3 t107 x12_3 x13_3 = some r) ∧ Aside0 (kq ≤ k2) ∧ Aside0 (Kd.R (Kd.int .i64) 3 w' w.heap.size (fun k_ => some k_ ≠ (v12 : Value).ownBlock) (.slice (some ad110) t107.length co26) t107) ∧ Aside0 (Kd.R (Kd.int .i64) 3 w' w.heap.size (fun k_ => some k_ ≠ ((.slice (some ad110) t107.length co26) : Value).ownBlock) v12 x12_3) ∧ Aside0 (Below w.heap.size w w'))
          case atStart => exact ⟨(y111), (a2), (by first | rfl | (simp; done) | (simp [*]; done)), H', ⟨Nat.le_refl _⟩, ⟨by (with_reducible repeat (first | apply Ra | apply Rn | apply Rd)); exact Kd.R_mono HO109.out (fun _ hk => hk.2)⟩, ⟨by (with_reducible repeat (first | apply Ra | apply Rn | apply Rd)); exact Kd.R_mono HO113.out (fun _ hk => hk.2)⟩, ⟨by repeat (first | (with_reducible first | exact HB.out | apply lA | apply lN | apply lD) | exact HB.out)⟩⟩
          case round =>
           clear H'
           try clear c1
           try clear p1
           try clear q1
           try clear hx1
           try clear c2
           try clear p2
           try clear c4
           try clear p6
           try clear c7
           try clear c8
           try clear c8b0
           try clear c9
           try clear c9b0
           try clear c10
           try clear c10b0
           try clear p10
           try clear q10
           try clear hx10
           try clear c11
           try clear p11
           try clear q11
           try clear hx11
           try clear c12
           try clear c12b0
           try clear c13
           try clear c13b0
           try clear c14
           try clear c18
           try clear c18b0
           try clear c19
           try clear c19b0
           try clear c20
           try clear c20b0
           try clear c25
           try clear c26
           try clear hx102_0
           try clear hx102_1
           try clear hx103_0
           try clear hx103_1
           try clear hx110_0
           try clear p102
           try clear p103
           try clear p110
           try clear p2
           try clear q102
           try clear q103
           try clear q110
           obtain ⟨x12_3, x13_3, rfl, HA, HK3, HO_11, HO_12, HB⟩ := hrel
           cases gk with
           | zero => exact absurd HA.out (by simp [lambrequinref10_Path.l1])
           | succ k3 =>
            have H := HA.out
            clear HA
            simp only [lambrequinref10_Path.l1] at H
            by_cases c29 : x13_3 = a3
            ·rw [if_pos c29] at H
             have c29b0 : (x13_3 == a3) = true := beq_iff_eq.mpr c29
             have c29b1 : (x13_3 != a3) = false := bne_eq_false_iff_eq.mpr c29
             clear c29
             obtain rfl := Option.some.inj H
             go_wp2
             go_ret
             exact ⟨_, by first | rfl | (simp [errW_none, errW_some] <;> rfl) | (simp [*, errW_none, errW_some] <;> rfl), by (with_reducible repeat (first | apply Ra | apply Rn | apply Rd)); exact Kd.R_mono HO_12.out (fun _ hk => trivial), by repeat (first | (with_reducible first | exact HB.out | apply lA | apply lN | apply lD) | exact HB.out)⟩
            ·rw [if_neg c29] at H
             have c29b0 : (x13_3 == a3) = false := beq_eq_false_iff_ne.mpr c29
             have c29b1 : (x13_3 != a3) = true := bne_iff_ne.mpr c29
             have H' := am H
             clear H
             go_wp2
             go_loopg [14, 15] k3 (fun kq v14 v15 w' => ∃ (x14_4 : Int) (x15_4 : Int), v14 = .int .i64 x14_4 ∧ v15 = .int .i64 x15_4 ∧ Aside0 (lambrequinref10_Path.l2 kq l1 a3 t107 x12_3 x13_3 x14_4 x15_4 = some r) ∧ Aside0 (kq ≤ k3) ∧ Aside0 (Kd.R (Kd.int .i64) 3 w' w.heap.size (fun k_ => some k_ ≠ (u12 : Value).ownBlock) (.slice (some ad110) t107.length co26) t107) ∧ Aside0 (Kd.R (Kd.int .i64) 3 w' w.heap.size (fun k_ => some k_ ≠ ((.slice (some ad110) t107.length co26) : Value).ownBlock) u12 x12_3) ∧ Aside0 (Below w.heap.size w w'))
             case atStart => exact ⟨((-1)), (0), (by first | rfl | (simp; done) | (simp [*]; done)), (by first | rfl | (simp; done) | (simp [*]; done)), H', ⟨Nat.le_refl _⟩, ⟨by (with_reducible repeat (first | apply Ra | apply Rn | apply Rd)); exact HO_11.out⟩, ⟨by (with_reducible repeat (first | apply Ra | apply Rn | apply Rd)); exact HO_12.out⟩, ⟨by repeat (first | (with_reducible first | exact HB.out | apply lA | apply lN | apply lD) | exact HB.out)⟩⟩
             case round =>
              clear H'
              try clear c1
              try clear p1
              try clear q1
              try clear hx1
              try clear c2
              try clear p2
              try clear c4
              try clear p6
              try clear c7
              try clear c8
              try clear c8b0
              try clear c9
              try clear c9b0
              try clear c10
              try clear c10b0
              try clear p10
              try clear q10
              try clear hx10
              try clear c11
              try clear p11
              try clear q11
              try clear hx11
              try clear c12
              try clear c12b0
              try clear c13
              try clear c13b0
              try clear c14
              try clear c18
              try clear c18b0
              try clear c19
              try clear c19b0
              try clear c20
              try clear c20b0
              try clear c25
              try clear c26
              try clear c29
              try clear c29b0
              try clear c29b1
              try clear hx102_0
              try clear hx102_1
              try clear hx103_0
              try clear hx103_1
              try clear hx110_0
              try clear p1
              try clear p10
              try clear p102
              try clear p103
              try clear p11
              try clear p110
              try clear p2
              try clear p6
              try clear q1
              try clear q10
              try clear q102
              try clear q103
              try clear q11
              try clear q110
              obtain ⟨x14_4, x15_4, rfl, rfl, HA, HK4, HO_11, HO_12, HB⟩ := hrel
              cases gk with
              | zero => exact absurd HA.out (by simp [lambrequinref10_Path.l2])
              | succ k4 =>
               have H := HA.out
               clear HA
               simp only [lambrequinref10_Path.l2] at H
               by_cases c30 : x15_4 < (l1.length : Int)
               ·rw [if_pos c30] at H
                have c30b0 : decide (x15_4 < (l1.length : Int)) = true := decide_eq_true c30
                clear c30
                by_cases c31 : 0 ≤ x15_4
                ·rw [if_pos c31] at H
                 have c31b0 : decide (0 ≤ x15_4) = true := decide_eq_true c31
                 clear c31
                 by_cases c32 : ((rd_T27 l1 x15_4).fst) = x13_3
                 ·rw [if_pos c32] at H
                  have c32b0 : (((rd_T27 l1 x15_4).fst) == x13_3) = true := beq_iff_eq.mpr c32
                  have c32b1 : (((rd_T27 l1 x15_4).fst) != x13_3) = false := bne_eq_false_iff_eq.mpr c32
                  clear c32
                  by_cases c33 : 0 ≤ ((rd_T27 l1 x15_4).snd)
                  ·rw [if_pos c33] at H
                   have c33b0 : decide (0 ≤ ((rd_T27 l1 x15_4).snd)) = true := decide_eq_true c33
                   clear c33
                   by_cases c34 : ((rd_T27 l1 x15_4).snd) < (t107.length : Int)
                   ·rw [if_pos c34] at H
                    have c34b0 : decide (((rd_T27 l1 x15_4).snd) < (t107.length : Int)) = true := decide_eq_true c34
                    clear c34
                    by_cases c35 : 0 ≤ x13_3
                    ·rw [if_pos c35] at H
                     have c35b0 : decide (0 ≤ x13_3) = true := decide_eq_true c35
                     clear c35
                     by_cases c36 : x13_3 < (t107.length : Int)
                     ·rw [if_pos c36] at H
                      have c36b0 : decide (x13_3 < (t107.length : Int)) = true := decide_eq_true c36
                      clear c36
                      by_cases c37 : (rd t107 ((rd_T27 l1 x15_4).snd)) = (wrap64 ((rd t107 x13_3) - 1))
                      ·rw [if_pos c37] at H
                       have c37b0 : ((rd t107 ((rd_T27 l1 x15_4).snd)) == (wrap64 ((rd t107 x13_3) - 1))) = true := beq_iff_eq.mpr c37
                       have c37b1 : ((rd t107 ((rd_T27 l1 x15_4).snd)) != (wrap64 ((rd t107 x13_3) - 1))) = false := bne_eq_false_iff_eq.mpr c37
                       clear c37
                       by_cases c38 : x14_4 < 0
                       ·rw [if_pos c38] at H
                        have c38b0 : decide (x14_4 < 0) = true := decide_eq_true c38
                        clear c38
                        have H' := am H
                        clear H
                        have p114 : 0 ≤ (x15_4 : Int) := of_decide_eq_true (by first | (with_reducible assumption) | assumption)
                        have q114 : x15_4 < (l1.length : Int) := of_decide_eq_true (by first | (with_reducible assumption) | assumption)
                        obtain ⟨ad114, e114, hx114_0, hx114_1⟩ := at_T27 HR1.out x15_4 p114 q114
                        cases e114
                        replace hx114_0 := (HB.out.cell (blt_ hx114_0)).trans hx114_0
                        replace hx114_1 := (HB.out.cell (blt_ hx114_1)).trans hx114_1
                        replace p114 := eq_true p114
                        replace q114 := eq_true q114
                        try go_wp2
                        replace HO_11 := am (Kd.R_drew HO_11.out)
                        replace HO_12 := am (Kd.R_drew HO_12.out)
                        replace HB := am (below_drew1 HB.out)
                        have p115 : 0 ≤ (x15_4 : Int) := of_decide_eq_true (by first | (with_reducible assumption) | assumption)
                        have q115 : x15_4 < (l1.length : Int) := of_decide_eq_true (by first | (with_reducible assumption) | assumption)
                        obtain ⟨ad115, e115, hx115_0, hx115_1⟩ := at_T27 HR1.out x15_4 p115 q115
                        have hw115_1 := hx115_1
                        have hw115_0 := hx115_0
                        obtain rfl : ad114 = ad115 := (by injection e115)
                        replace hx115_0 := (HB.out.cell (blt_ hx115_0)).trans hx115_0
                        replace hx115_1 := (HB.out.cell (blt_ hx115_1)).trans hx115_1
                        replace p115 := eq_true p115
                        replace q115 := eq_true q115
                        have p116 : 0 ≤ (((rd_T27 l1 x15_4).snd) : Int) := of_decide_eq_true (by first | (with_reducible assumption) | assumption)
                        have q116 : ((rd_T27 l1 x15_4).snd) < (t107.length : Int) := of_decide_eq_true (by first | (with_reducible assumption) | assumption)
                        obtain ⟨ad116, e116, hx116_0⟩ := Kd.at_int (Kd.R_reads' HO_11.out).2.2 ((rd_T27 l1 x15_4).snd) p116 q116
                        obtain rfl : ad110 = ad116 := (by injection e116)
                        replace p116 := eq_true p116
                        replace q116 := eq_true q116
                        have p117 : 0 ≤ (x13_3 : Int) := of_decide_eq_true (by first | (with_reducible assumption) | assumption)
                        have q117 : x13_3 < (t107.length : Int) := of_decide_eq_true (by first | (with_reducible assumption) | assumption)
                        obtain ⟨ad117, e117, hx117_0⟩ := Kd.at_int (Kd.R_reads' HO_11.out).2.2 x13_3 p117 q117
                        obtain rfl : ad110 = ad117 := (by injection e117)
                        replace p117 := eq_true p117
                        replace q117 := eq_true q117
                        refine start_ (n := 28) (S := fun w' => w'.cell? (ad114.add ((x15_4).toNat * 2)) = some (.int .i64 ((rd_T27 l1 x15_4).fst)) ∧ w'.cell? ⟨(ad114.add ((x15_4).toNat * 2)).block, (ad114.add ((x15_4).toNat * 2)).off + 1, none⟩ = some (.int .i64 ((rd_T27 l1 x15_4).snd)) ∧ w'.cell? (ad110.add (((rd_T27 l1 x15_4).snd)).toNat) = some (.int .i64 (rd t107 ((rd_T27 l1 x15_4).snd))) ∧ w'.cell? (ad110.add (x13_3).toNat) = some (.int .i64 (rd t107 x13_3))) (ds := []) (bl 28 0) (by kernel_rfl) rfl rfl ⟨((HB.out.cell (blt_ hw115_0)).trans hw115_0), ((HB.out.cell (blt_ hw115_1)).trans hw115_1), hx116_0, hx117_0⟩ (fun hHeld => ?_); refine with_tabW lambrequinref10_Path.tab19 lambrequinref10_Path.bits19 (fun HT_ HW_ => ?_)
                        generalize wr.drew = w39 at HO_11 HO_12 HB hx115_0 hx115_1 hx116_0 hx117_0 hHeld ⊢
                        refine pure_ (i := 0) (N := some 85) (v := ?_) (a' := ?_) (bl 28 1) rfl rfl (any_of HT_.out (by kernel_rfl)) (fun _ _ _ h => h) (Or.inl ⟨by rfl, ?_⟩) ?_ ?_
                        rotate_left
                        ·intro w'
                         go_simp
                         with_reducible rfl
                        rotate_left
                        ·simp only [Act.put, sA, sZ, sS, i64_w, i32_w]
                         rfl
                        refine pure_ (i := 1) (N := some 86) (v := ?_) (a' := ?_) (bl 28 3) rfl rfl (any_of HT_.out (by kernel_rfl)) (fun _ _ _ h => h) (Or.inl ⟨by rfl, ?_⟩) ?_ ?_
                        rotate_left
                        ·intro w'
                         go_simp
                         with_reducible rfl
                        rotate_left
                        ·simp only [Act.put, sA, sZ, sS, i64_w, i32_w]
                         rfl
                        refine pure_ (i := 2) (N := some 87) (v := ?_) (a' := ?_) (bl 28 7) rfl rfl (any_of HT_.out (by kernel_rfl)) (fun _ _ _ h => h) (Or.inl ⟨by rfl, ?_⟩) ?_ ?_
                        rotate_left
                        ·intro w'
                         go_simp
                         with_reducible rfl
                        rotate_left
                        ·simp only [Act.put, sA, sZ, sS, i64_w, i32_w]
                         rfl
                        refine pure_ (i := 3) (N := some 88) (v := ?_) (a' := ?_) (bl 28 15) rfl rfl (any_of HT_.out (by kernel_rfl)) (fun _ _ _ h => h) (Or.inl ⟨by rfl, ?_⟩) ?_ ?_
                        rotate_left
                        ·intro w'
                         go_simp
                         with_reducible rfl
                        rotate_left
                        ·simp only [Act.put, sA, sZ, sS, i64_w, i32_w]
                         rfl
                        refine pure_ (i := 5) (N := some 90) (v := ?_) (a' := ?_) (bl 28 47) rfl rfl (any_of HT_.out (by kernel_rfl)) (fun _ _ _ h => h) (Or.inl ⟨by rfl, ?_⟩) ?_ ?_
                        rotate_left
                        ·intro w'
                         go_simp
                         with_reducible rfl
                        rotate_left
                        ·simp only [Act.put, sA, sZ, sS, i64_w, i32_w]
                         rfl
                        refine take_ (i := 4) (N := some 89) (v := ?_) (a' := ?_) (bl 28 63) rfl rfl (take_ofW HT_.out HW_.out (by kernel_rfl)) (fun _ _ _ h => h) (Or.inl ⟨by rfl, ?_⟩) hHeld ?_ ?_
                        rotate_left
                        ·rintro w' ⟨s0, s1, s2, s3⟩
                         go_simp
                         with_reducible rfl
                        rotate_left
                        ·simp only [Act.put, sA, sZ, sS, i64_w, i32_w]
                         rfl
                        refine pure_ (i := 6) (N := some 91) (v := ?_) (a' := ?_) (bl 28 127) rfl rfl (any_of HT_.out (by kernel_rfl)) (fun _ _ _ h => h) (Or.inl ⟨by rfl, ?_⟩) ?_ ?_
                        rotate_left
                        ·intro w'
                         go_simp
                         with_reducible rfl
                        rotate_left
                        ·simp only [Act.put, sA, sZ, sS, i64_w, i32_w]
                         rfl
                        refine pure_ (i := 7) (N := some 92) (v := ?_) (a' := ?_) (bl 28 255) rfl rfl (any_of HT_.out (by kernel_rfl)) (fun _ _ _ h => h) (Or.inl ⟨by rfl, ?_⟩) ?_ ?_
                        rotate_left
                        ·intro w'
                         go_simp
                         with_reducible rfl
                        rotate_left
                        ·simp only [Act.put, sA, sZ, sS, i64_w, i32_w]
                         rfl
                        refine pure_ (i := 8) (N := some 93) (v := ?_) (a' := ?_) (bl 28 511) rfl rfl (any_of HT_.out (by kernel_rfl)) (fun _ _ _ h => h) (Or.inl ⟨by rfl, ?_⟩) ?_ ?_
                        rotate_left
                        ·intro w'
                         go_simp
                         with_reducible rfl
                        rotate_left
                        ·simp only [Act.put, sA, sZ, sS, i64_w, i32_w]
                         rfl
                        refine pure_ (i := 9) (N := some 94) (v := ?_) (a' := ?_) (bl 28 1023) rfl rfl (any_of HT_.out (by kernel_rfl)) (fun _ _ _ h => h) (Or.inl ⟨by rfl, ?_⟩) ?_ ?_
                        rotate_left
                        ·intro w'
                         go_simp
                         with_reducible rfl
                        rotate_left
                        ·simp only [Act.put, sA, sZ, sS, i64_w, i32_w]
                         rfl
                        refine pure_ (i := 10) (N := some 95) (v := ?_) (a' := ?_) (bl 28 2047) rfl rfl (any_of HT_.out (by kernel_rfl)) (fun _ _ _ h => h) (Or.inl ⟨by rfl, ?_⟩) ?_ ?_
                        rotate_left
                        ·intro w'
                         go_simp
                         with_reducible rfl
                        rotate_left
                        ·simp only [Act.put, sA, sZ, sS, i64_w, i32_w]
                         rfl
                        refine pure_ (i := 12) (N := some 97) (v := ?_) (a' := ?_) (bl 28 6143) rfl rfl (any_of HT_.out (by kernel_rfl)) (fun _ _ _ h => h) (Or.inl ⟨by rfl, ?_⟩) ?_ ?_
                        rotate_left
                        ·intro w'
                         go_simp
                         with_reducible rfl
                        rotate_left
                        ·simp only [Act.put, sA, sZ, sS, i64_w, i32_w]
                         rfl
                        refine pure_ (i := 13) (N := some 98) (v := ?_) (a' := ?_) (bl 28 14335) rfl rfl (any_of HT_.out (by kernel_rfl)) (fun _ _ _ h => h) (Or.inl ⟨by rfl, ?_⟩) ?_ ?_
                        rotate_left
                        ·intro w'
                         go_simp
                         with_reducible rfl
                        rotate_left
                        ·simp only [Act.put, sA, sZ, sS, i64_w, i32_w]
                         rfl
                        refine pure_ (i := 14) (N := some 99) (v := ?_) (a' := ?_) (bl 28 30719) rfl rfl (any_of HT_.out (by kernel_rfl)) (fun _ _ _ h => h) (Or.inl ⟨by rfl, ?_⟩) ?_ ?_
                        rotate_left
                        ·intro w'
                         go_simp
                         with_reducible rfl
                        rotate_left
                        ·simp only [Act.put, sA, sZ, sS, i64_w, i32_w]
                         rfl
                        refine take_ (i := 11) (N := some 96) (v := ?_) (a' := ?_) (bl 28 32767) rfl rfl (take_ofW HT_.out HW_.out (by kernel_rfl)) (fun _ _ _ h => h) (Or.inl ⟨by rfl, ?_⟩) hHeld ?_ ?_
                        rotate_left
                        ·rintro w' ⟨s0, s1, s2, s3⟩
                         go_simp
                         with_reducible rfl
                        rotate_left
                        ·simp only [Act.put, sA, sZ, sS, i64_w, i32_w]
                         rfl
                        refine take_ (i := 15) (N := some 100) (v := ?_) (a' := ?_) (bl 28 65535) rfl rfl (take_ofW HT_.out HW_.out (by kernel_rfl)) (fun _ _ _ h => h) (Or.inl ⟨by rfl, ?_⟩) hHeld ?_ ?_
                        rotate_left
                        ·rintro w' ⟨s0, s1, s2, s3⟩
                         go_simp
                         with_reducible rfl
                        rotate_left
                        ·simp only [Act.put, sA, sZ, sS, i64_w, i32_w]
                         rfl
                        refine pure_ (i := 16) (N := some 101) (v := ?_) (a' := ?_) (bl 28 131071) rfl rfl (any_of HT_.out (by kernel_rfl)) (fun _ _ _ h => h) (Or.inl ⟨by rfl, ?_⟩) ?_ ?_
                        rotate_left
                        ·intro w'
                         go_simp
                         with_reducible rfl
                        rotate_left
                        ·simp only [Act.put, sA, sZ, sS, i64_w, i32_w]
                         rfl
                        refine pure_ (i := 17) (N := some 102) (v := ?_) (a' := ?_) (bl 28 262143) rfl rfl (any_of HT_.out (by kernel_rfl)) (fun _ _ _ h => h) (Or.inl ⟨by rfl, ?_⟩) ?_ ?_
                        rotate_left
                        ·intro w'
                         go_simp
                         with_reducible rfl
                        rotate_left
                        ·simp only [Act.put, sA, sZ, sS, i64_w, i32_w]
                         rfl
                        refine pure_ (i := 18) (N := some 103) (v := ?_) (a' := ?_) (bl 28 524287) rfl rfl (any_of HT_.out (by kernel_rfl)) (fun _ _ _ h => h) (Or.inl ⟨by rfl, ?_⟩) ?_ ?_
                        rotate_left
                        ·intro w'
                         go_simp
                         with_reducible rfl
                        rotate_left
                        ·simp only [Act.put, sA, sZ, sS, i64_w, i32_w]
                         rfl
                        refine pure_ (i := 19) (N := some 104) (v := ?_) (a' := ?_) (bl 28 1048575) rfl rfl (any_of HT_.out (by kernel_rfl)) (fun _ _ _ h => h) (Or.inl ⟨by rfl, ?_⟩) ?_ ?_
                        rotate_left
                        ·intro w'
                         go_simp
                         with_reducible rfl
                        rotate_left
                        ·simp only [Act.put, sA, sZ, sS, i64_w, i32_w]
                         rfl
                        refine pure_ (i := 20) (N := some 105) (v := ?_) (a' := ?_) (bl 28 2097151) rfl rfl (any_of HT_.out (by kernel_rfl)) (fun _ _ _ h => h) (Or.inl ⟨by rfl, ?_⟩) ?_ ?_
                        rotate_left
                        ·intro w'
                         go_simp
                         with_reducible rfl
                        rotate_left
                        ·simp only [Act.put, sA, sZ, sS, i64_w, i32_w]
                         rfl
                        refine pure_ (i := 21) (N := some 106) (v := ?_) (a' := ?_) (bl 28 4194303) rfl rfl (any_of HT_.out (by kernel_rfl)) (fun _ _ _ h => h) (Or.inl ⟨by rfl, ?_⟩) ?_ ?_
                        rotate_left
                        ·intro w'
                         go_simp
                         with_reducible rfl
                        rotate_left
                        ·simp only [Act.put, sA, sZ, sS, i64_w, i32_w]
                         rfl
                        refine pure_ (i := 22) (N := some 107) (v := ?_) (a' := ?_) (bl 28 8388607) rfl rfl (any_of HT_.out (by kernel_rfl)) (fun _ _ _ h => h) (Or.inl ⟨by rfl, ?_⟩) ?_ ?_
                        rotate_left
                        ·intro w'
                         go_simp
                         with_reducible rfl
                        rotate_left
                        ·simp only [Act.put, sA, sZ, sS, i64_w, i32_w]
                         rfl
                        refine pure_ (i := 23) (N := some 108) (v := undef) (a' := ?_) (bl 28 16777215) rfl rfl (any_of HT_.out (by kernel_rfl)) (fun _ _ _ h => h) (Or.inr ⟨by rfl, rfl⟩) ?_ ?_
                        rotate_left
                        ·simp only [Act.put, sA, sZ, sS, i64_w, i32_w]
                         rfl
                        refine pure_ (i := 24) (N := some 109) (v := undef) (a' := ?_) (bl 28 33554431) rfl rfl (any_of HT_.out (by kernel_rfl)) (fun _ _ _ h => h) (Or.inr ⟨by rfl, rfl⟩) ?_ ?_
                        rotate_left
                        ·simp only [Act.put, sA, sZ, sS, i64_w, i32_w]
                         rfl
                        refine pure_ (i := 25) (N := some 110) (v := undef) (a' := ?_) (bl 28 67108863) rfl rfl (any_of HT_.out (by kernel_rfl)) (fun _ _ _ h => h) (Or.inr ⟨by rfl, rfl⟩) ?_ ?_
                        rotate_left
                        ·simp only [Act.put, sA, sZ, sS, i64_w, i32_w]
                         rfl
                        refine pure_ (i := 26) (N := some 111) (v := ?_) (a' := ?_) (bl 28 134217727) rfl rfl (any_of HT_.out (by kernel_rfl)) (fun _ _ _ h => h) (Or.inl ⟨by rfl, ?_⟩) ?_ ?_
                        rotate_left
                        ·intro w'
                         go_simp
                         with_reducible rfl
                        rotate_left
                        ·simp only [Act.put, sA, sZ, sS, i64_w, i32_w]
                         rfl
                        refine pure_ (i := 27) (N := some 112) (v := ?_) (a' := ?_) (bl 28 268435455) rfl rfl (any_of HT_.out (by kernel_rfl)) (fun _ _ _ h => h) (Or.inl ⟨by rfl, ?_⟩) ?_ ?_
                        rotate_left
                        ·intro w'
                         go_simp
                         with_reducible rfl
                        rotate_left
                        ·simp only [Act.put, sA, sZ, sS, i64_w, i32_w]
                         rfl
                        refine done_ (done_of HT_.out (by kernel_rfl)) ?_
                        try go_wp2
                        go_roundg k4
                        case measure => have := HJ4.out; have := HK2.out; have := HK3.out; have := HK4.out; omega
                        case rel => exact ⟨((rd_T27 l1 x15_4).snd), (wrap64 (x15_4 + 1)), (by first | rfl | (simp; done) | (simp [*]; done)), (by first | rfl | (simp; done) | (simp [*]; done)), H', ⟨by have := HJ4.out; have := HK2.out; have := HK3.out; have := HK4.out; omega⟩, ⟨by (with_reducible repeat (first | apply Ra | apply Rn | apply Rd)); exact HO_11.out⟩, ⟨by (with_reducible repeat (first | apply Ra | apply Rn | apply Rd)); exact HO_12.out⟩, ⟨by repeat (first | (with_reducible first | exact HB.out | apply lA | apply lN | apply lD) | exact HB.out)⟩⟩
                       ·rw [if_neg c38] at H
                        have c38b0 : decide (x14_4 < 0) = false := decide_eq_false c38
                        clear c38
                        by_cases c40 : ((rd_T27 l1 x15_4).snd) < x14_4
                        ·rw [if_pos c40] at H
                         have c40b0 : decide (((rd_T27 l1 x15_4).snd) < x14_4) = true := decide_eq_true c40
                         clear c40
                         have H' := am H
                         clear H
                         have p114 : 0 ≤ (x15_4 : Int) := of_decide_eq_true (by first | (with_reducible assumption) | assumption)
                         have q114 : x15_4 < (l1.length : Int) := of_decide_eq_true (by first | (with_reducible assumption) | assumption)
                         obtain ⟨ad114, e114, hx114_0, hx114_1⟩ := at_T27 HR1.out x15_4 p114 q114
                         cases e114
                         replace hx114_0 := (HB.out.cell (blt_ hx114_0)).trans hx114_0
                         replace hx114_1 := (HB.out.cell (blt_ hx114_1)).trans hx114_1
                         replace p114 := eq_true p114
                         replace q114 := eq_true q114
                         try go_wp2
                         replace HO_11 := am (Kd.R_drew HO_11.out)
                         replace HO_12 := am (Kd.R_drew HO_12.out)
                         replace HB := am (below_drew1 HB.out)
                         have p115 : 0 ≤ (x15_4 : Int) := of_decide_eq_true (by first | (with_reducible assumption) | assumption)
                         have q115 : x15_4 < (l1.length : Int) := of_decide_eq_true (by first | (with_reducible assumption) | assumption)
                         obtain ⟨ad115, e115, hx115_0, hx115_1⟩ := at_T27 HR1.out x15_4 p115 q115
                         have hw115_1 := hx115_1
                         have hw115_0 := hx115_0
                         obtain rfl : ad114 = ad115 := (by injection e115)
                         replace hx115_0 := (HB.out.cell (blt_ hx115_0)).trans hx115_0
                         replace hx115_1 := (HB.out.cell (blt_ hx115_1)).trans hx115_1
                         replace p115 := eq_true p115
                         replace q115 := eq_true q115
                         have p116 : 0 ≤ (((rd_T27 l1 x15_4).snd) : Int) := of_decide_eq_true (by first | (with_reducible assumption) | assumption)
                         have q116 : ((rd_T27 l1 x15_4).snd) < (t107.length : Int) := of_decide_eq_true (by first | (with_reducible assumption) | assumption)
                         obtain ⟨ad116, e116, hx116_0⟩ := Kd.at_int (Kd.R_reads' HO_11.out).2.2 ((rd_T27 l1 x15_4).snd) p116 q116
                         obtain rfl : ad110 = ad116 := (by injection e116)
                         replace p116 := eq_true p116
                         replace q116 := eq_true q116
                         have p117 : 0 ≤ (x13_3 : Int) := of_decide_eq_true (by first | (with_reducible assumption) | assumption)
                         have q117 : x13_3 < (t107.length : Int) := of_decide_eq_true (by first | (with_reducible assumption) | assumption)
                         obtain ⟨ad117, e117, hx117_0⟩ := Kd.at_int (Kd.R_reads' HO_11.out).2.2 x13_3 p117 q117
                         obtain rfl : ad110 = ad117 := (by injection e117)
                         replace p117 := eq_true p117
                         replace q117 := eq_true q117
                         refine start_ (n := 28) (S := fun w' => w'.cell? (ad114.add ((x15_4).toNat * 2)) = some (.int .i64 ((rd_T27 l1 x15_4).fst)) ∧ w'.cell? ⟨(ad114.add ((x15_4).toNat * 2)).block, (ad114.add ((x15_4).toNat * 2)).off + 1, none⟩ = some (.int .i64 ((rd_T27 l1 x15_4).snd)) ∧ w'.cell? (ad110.add (((rd_T27 l1 x15_4).snd)).toNat) = some (.int .i64 (rd t107 ((rd_T27 l1 x15_4).snd))) ∧ w'.cell? (ad110.add (x13_3).toNat) = some (.int .i64 (rd t107 x13_3))) (ds := []) (bl 28 0) (by kernel_rfl) rfl rfl ⟨((HB.out.cell (blt_ hw115_0)).trans hw115_0), ((HB.out.cell (blt_ hw115_1)).trans hw115_1), hx116_0, hx117_0⟩ (fun hHeld => ?_); refine with_tabW lambrequinref10_Path.tab19 lambrequinref10_Path.bits19 (fun HT_ HW_ => ?_)
                         generalize wr.drew = w41 at HO_11 HO_12 HB hx115_0 hx115_1 hx116_0 hx117_0 hHeld ⊢
                         refine pure_ (i := 0) (N := some 85) (v := ?_) (a' := ?_) (bl 28 1) rfl rfl (any_of HT_.out (by kernel_rfl)) (fun _ _ _ h => h) (Or.inl ⟨by rfl, ?_⟩) ?_ ?_
                         rotate_left
                         ·intro w'
                          go_simp
                          with_reducible rfl
                         rotate_left
                         ·simp only [Act.put, sA, sZ, sS, i64_w, i32_w]
                          rfl
                         refine pure_ (i := 1) (N := some 86) (v := ?_) (a' := ?_) (bl 28 3) rfl rfl (any_of HT_.out (by kernel_rfl)) (fun _ _ _ h => h) (Or.inl ⟨by rfl, ?_⟩) ?_ ?_
                         rotate_left
                         ·intro w'
                          go_simp
                          with_reducible rfl
                         rotate_left
                         ·simp only [Act.put, sA, sZ, sS, i64_w, i32_w]
                          rfl
                         refine pure_ (i := 2) (N := some 87) (v := ?_) (a' := ?_) (bl 28 7) rfl rfl (any_of HT_.out (by kernel_rfl)) (fun _ _ _ h => h) (Or.inl ⟨by rfl, ?_⟩) ?_ ?_
                         rotate_left
                         ·intro w'
                          go_simp
                          with_reducible rfl
                         rotate_left
                         ·simp only [Act.put, sA, sZ, sS, i64_w, i32_w]
                          rfl
                         refine pure_ (i := 3) (N := some 88) (v := ?_) (a' := ?_) (bl 28 15) rfl rfl (any_of HT_.out (by kernel_rfl)) (fun _ _ _ h => h) (Or.inl ⟨by rfl, ?_⟩) ?_ ?_
                         rotate_left
                         ·intro w'
                          go_simp
                          with_reducible rfl
                         rotate_left
                         ·simp only [Act.put, sA, sZ, sS, i64_w, i32_w]
                          rfl
                         refine pure_ (i := 5) (N := some 90) (v := ?_) (a' := ?_) (bl 28 47) rfl rfl (any_of HT_.out (by kernel_rfl)) (fun _ _ _ h => h) (Or.inl ⟨by rfl, ?_⟩) ?_ ?_
                         rotate_left
                         ·intro w'
                          go_simp
                          with_reducible rfl
                         rotate_left
                         ·simp only [Act.put, sA, sZ, sS, i64_w, i32_w]
                          rfl
                         refine take_ (i := 4) (N := some 89) (v := ?_) (a' := ?_) (bl 28 63) rfl rfl (take_ofW HT_.out HW_.out (by kernel_rfl)) (fun _ _ _ h => h) (Or.inl ⟨by rfl, ?_⟩) hHeld ?_ ?_
                         rotate_left
                         ·rintro w' ⟨s0, s1, s2, s3⟩
                          go_simp
                          with_reducible rfl
                         rotate_left
                         ·simp only [Act.put, sA, sZ, sS, i64_w, i32_w]
                          rfl
                         refine pure_ (i := 6) (N := some 91) (v := ?_) (a' := ?_) (bl 28 127) rfl rfl (any_of HT_.out (by kernel_rfl)) (fun _ _ _ h => h) (Or.inl ⟨by rfl, ?_⟩) ?_ ?_
                         rotate_left
                         ·intro w'
                          go_simp
                          with_reducible rfl
                         rotate_left
                         ·simp only [Act.put, sA, sZ, sS, i64_w, i32_w]
                          rfl
                         refine pure_ (i := 7) (N := some 92) (v := ?_) (a' := ?_) (bl 28 255) rfl rfl (any_of HT_.out (by kernel_rfl)) (fun _ _ _ h => h) (Or.inl ⟨by rfl, ?_⟩) ?_ ?_
                         rotate_left
                         ·intro w'
                          go_simp
                          with_reducible rfl
                         rotate_left
                         ·simp only [Act.put, sA, sZ, sS, i64_w, i32_w]
                          rfl
                         refine pure_ (i := 8) (N := some 93) (v := ?_) (a' := ?_) (bl 28 511) rfl rfl (any_of HT_.out (by kernel_rfl)) (fun _ _ _ h => h) (Or.inl ⟨by rfl, ?_⟩) ?_ ?_
                         rotate_left
                         ·intro w'
                          go_simp
                          with_reducible rfl
                         rotate_left
                         ·simp only [Act.put, sA, sZ, sS, i64_w, i32_w]
                          rfl
                         refine pure_ (i := 9) (N := some 94) (v := ?_) (a' := ?_) (bl 28 1023) rfl rfl (any_of HT_.out (by kernel_rfl)) (fun _ _ _ h => h) (Or.inl ⟨by rfl, ?_⟩) ?_ ?_
                         rotate_left
                         ·intro w'
                          go_simp
                          with_reducible rfl
                         rotate_left
                         ·simp only [Act.put, sA, sZ, sS, i64_w, i32_w]
                          rfl
                         refine pure_ (i := 10) (N := some 95) (v := ?_) (a' := ?_) (bl 28 2047) rfl rfl (any_of HT_.out (by kernel_rfl)) (fun _ _ _ h => h) (Or.inl ⟨by rfl, ?_⟩) ?_ ?_
                         rotate_left
                         ·intro w'
                          go_simp
                          with_reducible rfl
                         rotate_left
                         ·simp only [Act.put, sA, sZ, sS, i64_w, i32_w]
                          rfl
                         refine pure_ (i := 12) (N := some 97) (v := ?_) (a' := ?_) (bl 28 6143) rfl rfl (any_of HT_.out (by kernel_rfl)) (fun _ _ _ h => h) (Or.inl ⟨by rfl, ?_⟩) ?_ ?_
                         rotate_left
                         ·intro w'
                          go_simp
                          with_reducible rfl
                         rotate_left
                         ·simp only [Act.put, sA, sZ, sS, i64_w, i32_w]
                          rfl
                         refine pure_ (i := 13) (N := some 98) (v := ?_) (a' := ?_) (bl 28 14335) rfl rfl (any_of HT_.out (by kernel_rfl)) (fun _ _ _ h => h) (Or.inl ⟨by rfl, ?_⟩) ?_ ?_
                         rotate_left
                         ·intro w'
                          go_simp
                          with_reducible rfl
                         rotate_left
                         ·simp only [Act.put, sA, sZ, sS, i64_w, i32_w]
                          rfl
                         refine pure_ (i := 14) (N := some 99) (v := ?_) (a' := ?_) (bl 28 30719) rfl rfl (any_of HT_.out (by kernel_rfl)) (fun _ _ _ h => h) (Or.inl ⟨by rfl, ?_⟩) ?_ ?_
                         rotate_left
                         ·intro w'
                          go_simp
                          with_reducible rfl
                         rotate_left
                         ·simp only [Act.put, sA, sZ, sS, i64_w, i32_w]
                          rfl
                         refine take_ (i := 11) (N := some 96) (v := ?_) (a' := ?_) (bl 28 32767) rfl rfl (take_ofW HT_.out HW_.out (by kernel_rfl)) (fun _ _ _ h => h) (Or.inl ⟨by rfl, ?_⟩) hHeld ?_ ?_
                         rotate_left
                         ·rintro w' ⟨s0, s1, s2, s3⟩
                          go_simp
                          with_reducible rfl
                         rotate_left
                         ·simp only [Act.put, sA, sZ, sS, i64_w, i32_w]
                          rfl
                         refine take_ (i := 15) (N := some 100) (v := ?_) (a' := ?_) (bl 28 65535) rfl rfl (take_ofW HT_.out HW_.out (by kernel_rfl)) (fun _ _ _ h => h) (Or.inl ⟨by rfl, ?_⟩) hHeld ?_ ?_
                         rotate_left
                         ·rintro w' ⟨s0, s1, s2, s3⟩
                          go_simp
                          with_reducible rfl
                         rotate_left
                         ·simp only [Act.put, sA, sZ, sS, i64_w, i32_w]
                          rfl
                         refine pure_ (i := 16) (N := some 101) (v := ?_) (a' := ?_) (bl 28 131071) rfl rfl (any_of HT_.out (by kernel_rfl)) (fun _ _ _ h => h) (Or.inl ⟨by rfl, ?_⟩) ?_ ?_
                         rotate_left
                         ·intro w'
                          go_simp
                          with_reducible rfl
                         rotate_left
                         ·simp only [Act.put, sA, sZ, sS, i64_w, i32_w]
                          rfl
                         refine pure_ (i := 17) (N := some 102) (v := ?_) (a' := ?_) (bl 28 262143) rfl rfl (any_of HT_.out (by kernel_rfl)) (fun _ _ _ h => h) (Or.inl ⟨by rfl, ?_⟩) ?_ ?_
                         rotate_left
                         ·intro w'
                          go_simp
                          with_reducible rfl
                         rotate_left
                         ·simp only [Act.put, sA, sZ, sS, i64_w, i32_w]
                          rfl
                         refine pure_ (i := 18) (N := some 103) (v := ?_) (a' := ?_) (bl 28 524287) rfl rfl (any_of HT_.out (by kernel_rfl)) (fun _ _ _ h => h) (Or.inl ⟨by rfl, ?_⟩) ?_ ?_
                         rotate_left
                         ·intro w'
                          go_simp
                          with_reducible rfl
                         rotate_left
                         ·simp only [Act.put, sA, sZ, sS, i64_w, i32_w]
                          rfl
                         refine pure_ (i := 19) (N := some 104) (v := ?_) (a' := ?_) (bl 28 1048575) rfl rfl (any_of HT_.out (by kernel_rfl)) (fun _ _ _ h => h) (Or.inl ⟨by rfl, ?_⟩) ?_ ?_
                         rotate_left
                         ·intro w'
                          go_simp
                          with_reducible rfl
                         rotate_left
                         ·simp only [Act.put, sA, sZ, sS, i64_w, i32_w]
                          rfl
                         refine pure_ (i := 20) (N := some 105) (v := ?_) (a' := ?_) (bl 28 2097151) rfl rfl (any_of HT_.out (by kernel_rfl)) (fun _ _ _ h => h) (Or.inl ⟨by rfl, ?_⟩) ?_ ?_
                         rotate_left
                         ·intro w'
                          go_simp
                          with_reducible rfl
                         rotate_left
                         ·simp only [Act.put, sA, sZ, sS, i64_w, i32_w]
                          rfl
                         refine pure_ (i := 21) (N := some 106) (v := ?_) (a' := ?_) (bl 28 4194303) rfl rfl (any_of HT_.out (by kernel_rfl)) (fun _ _ _ h => h) (Or.inl ⟨by rfl, ?_⟩) ?_ ?_
                         rotate_left
                         ·intro w'
                          go_simp
                          with_reducible rfl
                         rotate_left
                         ·simp only [Act.put, sA, sZ, sS, i64_w, i32_w]
                          rfl
                         refine pure_ (i := 22) (N := some 107) (v := ?_) (a' := ?_) (bl 28 8388607) rfl rfl (any_of HT_.out (by kernel_rfl)) (fun _ _ _ h => h) (Or.inl ⟨by rfl, ?_⟩) ?_ ?_
                         rotate_left
                         ·intro w'
                          go_simp
                          with_reducible rfl
                         rotate_left
                         ·simp only [Act.put, sA, sZ, sS, i64_w, i32_w]
                          rfl
                         refine pure_ (i := 23) (N := some 108) (v := ?_) (a' := ?_) (bl 28 16777215) rfl rfl (any_of HT_.out (by kernel_rfl)) (fun _ _ _ h => h) (Or.inl ⟨by rfl, ?_⟩) ?_ ?_
                         rotate_left
                         ·intro w'
                          go_simp
                          with_reducible rfl
                         rotate_left
                         ·simp only [Act.put, sA, sZ, sS, i64_w, i32_w]
                          rfl
                         refine pure_ (i := 24) (N := some 109) (v := ?_) (a' := ?_) (bl 28 33554431) rfl rfl (any_of HT_.out (by kernel_rfl)) (fun _ _ _ h => h) (Or.inl ⟨by rfl, ?_⟩) ?_ ?_
                         rotate_left
                         ·intro w'
                          go_simp
                          with_reducible rfl
                         rotate_left
                         ·simp only [Act.put, sA, sZ, sS, i64_w, i32_w]
                          rfl
                         refine pure_ (i := 25) (N := some 110) (v := ?_) (a' := ?_) (bl 28 67108863) rfl rfl (any_of HT_.out (by kernel_rfl)) (fun _ _ _ h => h) (Or.inl ⟨by rfl, ?_⟩) ?_ ?_
                         rotate_left
                         ·intro w'
                          go_simp
                          with_reducible rfl
                         rotate_left
                         ·simp only [Act.put, sA, sZ, sS, i64_w, i32_w]
                          rfl
                         refine pure_ (i := 26) (N := some 111) (v := ?_) (a' := ?_) (bl 28 134217727) rfl rfl (any_of HT_.out (by kernel_rfl)) (fun _ _ _ h => h) (Or.inl ⟨by rfl, ?_⟩) ?_ ?_
                         rotate_left
                         ·intro w'
                          go_simp
                          with_reducible rfl
                         rotate_left
                         ·simp only [Act.put, sA, sZ, sS, i64_w, i32_w]
                          rfl
                         refine pure_ (i := 27) (N := some 112) (v := ?_) (a' := ?_) (bl 28 268435455) rfl rfl (any_of HT_.out (by kernel_rfl)) (fun _ _ _ h => h) (Or.inl ⟨by rfl, ?_⟩) ?_ ?_
                         rotate_left
                         ·intro w'
                          go_simp
                          with_reducible rfl
                         rotate_left
                         ·simp only [Act.put, sA, sZ, sS, i64_w, i32_w]
                          rfl
                         refine done_ (done_of HT_.out (by kernel_rfl)) ?_
                         try go_wp2
                         go_roundg k4
                         case measure => have := HJ4.out; have := HK2.out; have := HK3.out; have := HK4.out; omega
                         case rel => exact ⟨((rd_T27 l1 x15_4).snd), (wrap64 (x15_4 + 1)), (by first | rfl | (simp; done) | (simp [*]; done)), (by first | rfl | (simp; done) | (simp [*]; done)), H', ⟨by have := HJ4.out; have := HK2.out; have := HK3.out; have := HK4.out; omega⟩, ⟨by (with_reducible repeat (first | apply Ra | apply Rn | apply Rd)); exact HO_11.out⟩, ⟨by (with_reducible repeat (first | apply Ra | apply Rn | apply Rd)); exact HO_12.out⟩, ⟨by repeat (first | (with_reducible first | exact HB.out | apply lA | apply lN | apply lD) | exact HB.out)⟩⟩
                        ·rw [if_neg c40] at H
                         have c40b0 : decide (((rd_T27 l1 x15_4).snd) < x14_4) = false := decide_eq_false c40
                         clear c40
                         have H' := am H
                         clear H
                         have p114 : 0 ≤ (x15_4 : Int) := of_decide_eq_true (by first | (with_reducible assumption) | assumption)
                         have q114 : x15_4 < (l1.length : Int) := of_decide_eq_true (by first | (with_reducible assumption) | assumption)
                         obtain ⟨ad114, e114, hx114_0, hx114_1⟩ := at_T27 HR1.out x15_4 p114 q114
                         cases e114
                         replace hx114_0 := (HB.out.cell (blt_ hx114_0)).trans hx114_0
                         replace hx114_1 := (HB.out.cell (blt_ hx114_1)).trans hx114_1
                         replace p114 := eq_true p114
                         replace q114 := eq_true q114
                         try go_wp2
                         replace HO_11 := am (Kd.R_drew HO_11.out)
                         replace HO_12 := am (Kd.R_drew HO_12.out)
                         replace HB := am (below_drew1 HB.out)
                         have p115 : 0 ≤ (x15_4 : Int) := of_decide_eq_true (by first | (with_reducible assumption) | assumption)
                         have q115 : x15_4 < (l1.length : Int) := of_decide_eq_true (by first | (with_reducible assumption) | assumption)
                         obtain ⟨ad115, e115, hx115_0, hx115_1⟩ := at_T27 HR1.out x15_4 p115 q115
                         have hw115_1 := hx115_1
                         have hw115_0 := hx115_0
                         obtain rfl : ad114 = ad115 := (by injection e115)
                         replace hx115_0 := (HB.out.cell (blt_ hx115_0)).trans hx115_0
                         replace hx115_1 := (HB.out.cell (blt_ hx115_1)).trans hx115_1
                         replace p115 := eq_true p115
                         replace q115 := eq_true q115
                         have p116 : 0 ≤ (((rd_T27 l1 x15_4).snd) : Int) := of_decide_eq_true (by first | (with_reducible assumption) | assumption)
                         have q116 : ((rd_T27 l1 x15_4).snd) < (t107.length : Int) := of_decide_eq_true (by first | (with_reducible assumption) | assumption)
                         obtain ⟨ad116, e116, hx116_0⟩ := Kd.at_int (Kd.R_reads' HO_11.out).2.2 ((rd_T27 l1 x15_4).snd) p116 q116
                         obtain rfl : ad110 = ad116 := (by injection e116)
                         replace p116 := eq_true p116
                         replace q116 := eq_true q116
                         have p117 : 0 ≤ (x13_3 : Int) := of_decide_eq_true (by first | (with_reducible assumption) | assumption)
                         have q117 : x13_3 < (t107.length : Int) := of_decide_eq_true (by first | (with_reducible assumption) | assumption)
                         obtain ⟨ad117, e117, hx117_0⟩ := Kd.at_int (Kd.R_reads' HO_11.out).2.2 x13_3 p117 q117
                         obtain rfl : ad110 = ad117 := (by injection e117)
                         replace p117 := eq_true p117
                         replace q117 := eq_true q117
                         refine start_ (n := 28) (S := fun w' => w'.cell? (ad114.add ((x15_4).toNat * 2)) = some (.int .i64 ((rd_T27 l1 x15_4).fst)) ∧ w'.cell? ⟨(ad114.add ((x15_4).toNat * 2)).block, (ad114.add ((x15_4).toNat * 2)).off + 1, none⟩ = some (.int .i64 ((rd_T27 l1 x15_4).snd)) ∧ w'.cell? (ad110.add (((rd_T27 l1 x15_4).snd)).toNat) = some (.int .i64 (rd t107 ((rd_T27 l1 x15_4).snd))) ∧ w'.cell? (ad110.add (x13_3).toNat) = some (.int .i64 (rd t107 x13_3))) (ds := []) (bl 28 0) (by kernel_rfl) rfl rfl ⟨((HB.out.cell (blt_ hw115_0)).trans hw115_0), ((HB.out.cell (blt_ hw115_1)).trans hw115_1), hx116_0, hx117_0⟩ (fun hHeld => ?_); refine with_tabW lambrequinref10_Path.tab19 lambrequinref10_Path.bits19 (fun HT_ HW_ => ?_)
                         generalize wr.drew = w42 at HO_11 HO_12 HB hx115_0 hx115_1 hx116_0 hx117_0 hHeld ⊢
                         refine pure_ (i := 0) (N := some 85) (v := ?_) (a' := ?_) (bl 28 1) rfl rfl (any_of HT_.out (by kernel_rfl)) (fun _ _ _ h => h) (Or.inl ⟨by rfl, ?_⟩) ?_ ?_
                         rotate_left
                         ·intro w'
                          go_simp
                          with_reducible rfl
                         rotate_left
                         ·simp only [Act.put, sA, sZ, sS, i64_w, i32_w]
                          rfl
                         refine pure_ (i := 1) (N := some 86) (v := ?_) (a' := ?_) (bl 28 3) rfl rfl (any_of HT_.out (by kernel_rfl)) (fun _ _ _ h => h) (Or.inl ⟨by rfl, ?_⟩) ?_ ?_
                         rotate_left
                         ·intro w'
                          go_simp
                          with_reducible rfl
                         rotate_left
                         ·simp only [Act.put, sA, sZ, sS, i64_w, i32_w]
                          rfl
                         refine pure_ (i := 2) (N := some 87) (v := ?_) (a' := ?_) (bl 28 7) rfl rfl (any_of HT_.out (by kernel_rfl)) (fun _ _ _ h => h) (Or.inl ⟨by rfl, ?_⟩) ?_ ?_
                         rotate_left
                         ·intro w'
                          go_simp
                          with_reducible rfl
                         rotate_left
                         ·simp only [Act.put, sA, sZ, sS, i64_w, i32_w]
                          rfl
                         refine pure_ (i := 3) (N := some 88) (v := ?_) (a' := ?_) (bl 28 15) rfl rfl (any_of HT_.out (by kernel_rfl)) (fun _ _ _ h => h) (Or.inl ⟨by rfl, ?_⟩) ?_ ?_
                         rotate_left
                         ·intro w'
                          go_simp
                          with_reducible rfl
                         rotate_left
                         ·simp only [Act.put, sA, sZ, sS, i64_w, i32_w]
                          rfl
                         refine pure_ (i := 5) (N := some 90) (v := ?_) (a' := ?_) (bl 28 47) rfl rfl (any_of HT_.out (by kernel_rfl)) (fun _ _ _ h => h) (Or.inl ⟨by rfl, ?_⟩) ?_ ?_
                         rotate_left
                         ·intro w'
                          go_simp
                          with_reducible rfl
                         rotate_left
                         ·simp only [Act.put, sA, sZ, sS, i64_w, i32_w]
                          rfl
                         refine take_ (i := 4) (N := some 89) (v := ?_) (a' := ?_) (bl 28 63) rfl rfl (take_ofW HT_.out HW_.out (by kernel_rfl)) (fun _ _ _ h => h) (Or.inl ⟨by rfl, ?_⟩) hHeld ?_ ?_
                         rotate_left
                         ·rintro w' ⟨s0, s1, s2, s3⟩
                          go_simp
                          with_reducible rfl
                         rotate_left
                         ·simp only [Act.put, sA, sZ, sS, i64_w, i32_w]
                          rfl
                         refine pure_ (i := 6) (N := some 91) (v := ?_) (a' := ?_) (bl 28 127) rfl rfl (any_of HT_.out (by kernel_rfl)) (fun _ _ _ h => h) (Or.inl ⟨by rfl, ?_⟩) ?_ ?_
                         rotate_left
                         ·intro w'
                          go_simp
                          with_reducible rfl
                         rotate_left
                         ·simp only [Act.put, sA, sZ, sS, i64_w, i32_w]
                          rfl
                         refine pure_ (i := 7) (N := some 92) (v := ?_) (a' := ?_) (bl 28 255) rfl rfl (any_of HT_.out (by kernel_rfl)) (fun _ _ _ h => h) (Or.inl ⟨by rfl, ?_⟩) ?_ ?_
                         rotate_left
                         ·intro w'
                          go_simp
                          with_reducible rfl
                         rotate_left
                         ·simp only [Act.put, sA, sZ, sS, i64_w, i32_w]
                          rfl
                         refine pure_ (i := 8) (N := some 93) (v := ?_) (a' := ?_) (bl 28 511) rfl rfl (any_of HT_.out (by kernel_rfl)) (fun _ _ _ h => h) (Or.inl ⟨by rfl, ?_⟩) ?_ ?_
                         rotate_left
                         ·intro w'
                          go_simp
                          with_reducible rfl
                         rotate_left
                         ·simp only [Act.put, sA, sZ, sS, i64_w, i32_w]
                          rfl
                         refine pure_ (i := 9) (N := some 94) (v := ?_) (a' := ?_) (bl 28 1023) rfl rfl (any_of HT_.out (by kernel_rfl)) (fun _ _ _ h => h) (Or.inl ⟨by rfl, ?_⟩) ?_ ?_
                         rotate_left
                         ·intro w'
                          go_simp
                          with_reducible rfl
                         rotate_left
                         ·simp only [Act.put, sA, sZ, sS, i64_w, i32_w]
                          rfl
                         refine pure_ (i := 10) (N := some 95) (v := ?_) (a' := ?_) (bl 28 2047) rfl rfl (any_of HT_.out (by kernel_rfl)) (fun _ _ _ h => h) (Or.inl ⟨by rfl, ?_⟩) ?_ ?_
                         rotate_left
                         ·intro w'
                          go_simp
                          with_reducible rfl
                         rotate_left
                         ·simp only [Act.put, sA, sZ, sS, i64_w, i32_w]
                          rfl
                         refine pure_ (i := 12) (N := some 97) (v := ?_) (a' := ?_) (bl 28 6143) rfl rfl (any_of HT_.out (by kernel_rfl)) (fun _ _ _ h => h) (Or.inl ⟨by rfl, ?_⟩) ?_ ?_
                         rotate_left
                         ·intro w'
                          go_simp
                          with_reducible rfl
                         rotate_left
                         ·simp only [Act.put, sA, sZ, sS, i64_w, i32_w]
                          rfl
                         refine pure_ (i := 13) (N := some 98) (v := ?_) (a' := ?_) (bl 28 14335) rfl rfl (any_of HT_.out (by kernel_rfl)) (fun _ _ _ h => h) (Or.inl ⟨by rfl, ?_⟩) ?_ ?_
                         rotate_left
                         ·intro w'
                          go_simp
                          with_reducible rfl
                         rotate_left
                         ·simp only [Act.put, sA, sZ, sS, i64_w, i32_w]
                          rfl
                         refine pure_ (i := 14) (N := some 99) (v := ?_) (a' := ?_) (bl 28 30719) rfl rfl (any_of HT_.out (by kernel_rfl)) (fun _ _ _ h => h) (Or.inl ⟨by rfl, ?_⟩) ?_ ?_
                         rotate_left
                         ·intro w'
                          go_simp
                          with_reducible rfl
                         rotate_left
                         ·simp only [Act.put, sA, sZ, sS, i64_w, i32_w]
                          rfl
                         refine take_ (i := 11) (N := some 96) (v := ?_) (a' := ?_) (bl 28 32767) rfl rfl (take_ofW HT_.out HW_.out (by kernel_rfl)) (fun _ _ _ h => h) (Or.inl ⟨by rfl, ?_⟩) hHeld ?_ ?_
                         rotate_left
                         ·rintro w' ⟨s0, s1, s2, s3⟩
                          go_simp
                          with_reducible rfl
                         rotate_left
                         ·simp only [Act.put, sA, sZ, sS, i64_w, i32_w]
                          rfl
                         refine take_ (i := 15) (N := some 100) (v := ?_) (a' := ?_) (bl 28 65535) rfl rfl (take_ofW HT_.out HW_.out (by kernel_rfl)) (fun _ _ _ h => h) (Or.inl ⟨by rfl, ?_⟩) hHeld ?_ ?_
                         rotate_left
                         ·rintro w' ⟨s0, s1, s2, s3⟩
                          go_simp
                          with_reducible rfl
                         rotate_left
                         ·simp only [Act.put, sA, sZ, sS, i64_w, i32_w]
                          rfl
                         refine pure_ (i := 16) (N := some 101) (v := ?_) (a' := ?_) (bl 28 131071) rfl rfl (any_of HT_.out (by kernel_rfl)) (fun _ _ _ h => h) (Or.inl ⟨by rfl, ?_⟩) ?_ ?_
                         rotate_left
                         ·intro w'
                          go_simp
                          with_reducible rfl
                         rotate_left
                         ·simp only [Act.put, sA, sZ, sS, i64_w, i32_w]
                          rfl
                         refine pure_ (i := 17) (N := some 102) (v := ?_) (a' := ?_) (bl 28 262143) rfl rfl (any_of HT_.out (by kernel_rfl)) (fun _ _ _ h => h) (Or.inl ⟨by rfl, ?_⟩) ?_ ?_
                         rotate_left
                         ·intro w'
                          go_simp
                          with_reducible rfl
                         rotate_left
                         ·simp only [Act.put, sA, sZ, sS, i64_w, i32_w]
                          rfl
                         refine pure_ (i := 18) (N := some 103) (v := ?_) (a' := ?_) (bl 28 524287) rfl rfl (any_of HT_.out (by kernel_rfl)) (fun _ _ _ h => h) (Or.inl ⟨by rfl, ?_⟩) ?_ ?_
                         rotate_left
                         ·intro w'
                          go_simp
                          with_reducible rfl
                         rotate_left
                         ·simp only [Act.put, sA, sZ, sS, i64_w, i32_w]
                          rfl
                         refine pure_ (i := 19) (N := some 104) (v := ?_) (a' := ?_) (bl 28 1048575) rfl rfl (any_of HT_.out (by kernel_rfl)) (fun _ _ _ h => h) (Or.inl ⟨by rfl, ?_⟩) ?_ ?_
                         rotate_left
                         ·intro w'
                          go_simp
                          with_reducible rfl
                         rotate_left
                         ·simp only [Act.put, sA, sZ, sS, i64_w, i32_w]
                          rfl
                         refine pure_ (i := 20) (N := some 105) (v := ?_) (a' := ?_) (bl 28 2097151) rfl rfl (any_of HT_.out (by kernel_rfl)) (fun _ _ _ h => h) (Or.inl ⟨by rfl, ?_⟩) ?_ ?_
                         rotate_left
                         ·intro w'
                          go_simp
                          with_reducible rfl
                         rotate_left
                         ·simp only [Act.put, sA, sZ, sS, i64_w, i32_w]
                          rfl
                         refine pure_ (i := 21) (N := some 106) (v := ?_) (a' := ?_) (bl 28 4194303) rfl rfl (any_of HT_.out (by kernel_rfl)) (fun _ _ _ h => h) (Or.inl ⟨by rfl, ?_⟩) ?_ ?_
                         rotate_left
                         ·intro w'
                          go_simp
                          with_reducible rfl
                         rotate_left
                         ·simp only [Act.put, sA, sZ, sS, i64_w, i32_w]
                          rfl
                         refine pure_ (i := 22) (N := some 107) (v := ?_) (a' := ?_) (bl 28 8388607) rfl rfl (any_of HT_.out (by kernel_rfl)) (fun _ _ _ h => h) (Or.inl ⟨by rfl, ?_⟩) ?_ ?_
                         rotate_left
                         ·intro w'
                          go_simp
                          with_reducible rfl
                         rotate_left
                         ·simp only [Act.put, sA, sZ, sS, i64_w, i32_w]
                          rfl
                         refine pure_ (i := 23) (N := some 108) (v := ?_) (a' := ?_) (bl 28 16777215) rfl rfl (any_of HT_.out (by kernel_rfl)) (fun _ _ _ h => h) (Or.inl ⟨by rfl, ?_⟩) ?_ ?_
                         rotate_left
                         ·intro w'
                          go_simp
                          with_reducible rfl
                         rotate_left
                         ·simp only [Act.put, sA, sZ, sS, i64_w, i32_w]
                          rfl
                         refine pure_ (i := 24) (N := some 109) (v := ?_) (a' := ?_) (bl 28 33554431) rfl rfl (any_of HT_.out (by kernel_rfl)) (fun _ _ _ h => h) (Or.inl ⟨by rfl, ?_⟩) ?_ ?_
                         rotate_left
                         ·intro w'
                          go_simp
                          with_reducible rfl
                         rotate_left
                         ·simp only [Act.put, sA, sZ, sS, i64_w, i32_w]
                          rfl
                         refine pure_ (i := 25) (N := some 110) (v := ?_) (a' := ?_) (bl 28 67108863) rfl rfl (any_of HT_.out (by kernel_rfl)) (fun _ _ _ h => h) (Or.inl ⟨by rfl, ?_⟩) ?_ ?_
                         rotate_left
                         ·intro w'
                          go_simp
                          with_reducible rfl
                         rotate_left
                         ·simp only [Act.put, sA, sZ, sS, i64_w, i32_w]
                          rfl
                         refine pure_ (i := 26) (N := some 111) (v := ?_) (a' := ?_) (bl 28 134217727) rfl rfl (any_of HT_.out (by kernel_rfl)) (fun _ _ _ h => h) (Or.inl ⟨by rfl, ?_⟩) ?_ ?_
                         rotate_left
                         ·intro w'
                          go_simp
                          with_reducible rfl
                         rotate_left
                         ·simp only [Act.put, sA, sZ, sS, i64_w, i32_w]
                          rfl
                         refine pure_ (i := 27) (N := some 112) (v := ?_) (a' := ?_) (bl 28 268435455) rfl rfl (any_of HT_.out (by kernel_rfl)) (fun _ _ _ h => h) (Or.inl ⟨by rfl, ?_⟩) ?_ ?_
                         rotate_left
                         ·intro w'
                          go_simp
                          with_reducible rfl
                         rotate_left
                         ·simp only [Act.put, sA, sZ, sS, i64_w, i32_w]
                          rfl
                         refine done_ (done_of HT_.out (by kernel_rfl)) ?_
                         try go_wp2
                         go_roundg k4
                         case measure => have := HJ4.out; have := HK2.out; have := HK3.out; have := HK4.out; omega
                         case rel => exact ⟨(x14_4), (wrap64 (x15_4 + 1)), (by first | rfl | (simp; done) | (simp [*]; done)), (by first | rfl | (simp; done) | (simp [*]; done)), H', ⟨by have := HJ4.out; have := HK2.out; have := HK3.out; have := HK4.out; omega⟩, ⟨by (with_reducible repeat (first | apply Ra | apply Rn | apply Rd)); exact HO_11.out⟩, ⟨by (with_reducible repeat (first | apply Ra | apply Rn | apply Rd)); exact HO_12.out⟩, ⟨by repeat (first | (with_reducible first | exact HB.out | apply lA | apply lN | apply lD) | exact HB.out)⟩⟩
                      ·rw [if_neg c37] at H
                       have c37b0 : ((rd t107 ((rd_T27 l1 x15_4).snd)) == (wrap64 ((rd t107 x13_3) - 1))) = false := beq_eq_false_iff_ne.mpr c37
                       have c37b1 : ((rd t107 ((rd_T27 l1 x15_4).snd)) != (wrap64 ((rd t107 x13_3) - 1))) = true := bne_iff_ne.mpr c37
                       have H' := am H
                       clear H
                       have p114 : 0 ≤ (x15_4 : Int) := of_decide_eq_true (by first | (with_reducible assumption) | assumption)
                       have q114 : x15_4 < (l1.length : Int) := of_decide_eq_true (by first | (with_reducible assumption) | assumption)
                       obtain ⟨ad114, e114, hx114_0, hx114_1⟩ := at_T27 HR1.out x15_4 p114 q114
                       cases e114
                       replace hx114_0 := (HB.out.cell (blt_ hx114_0)).trans hx114_0
                       replace hx114_1 := (HB.out.cell (blt_ hx114_1)).trans hx114_1
                       replace p114 := eq_true p114
                       replace q114 := eq_true q114
                       try go_wp2
                       replace HO_11 := am (Kd.R_drew HO_11.out)
                       replace HO_12 := am (Kd.R_drew HO_12.out)
                       replace HB := am (below_drew1 HB.out)
                       have p115 : 0 ≤ (x15_4 : Int) := of_decide_eq_true (by first | (with_reducible assumption) | assumption)
                       have q115 : x15_4 < (l1.length : Int) := of_decide_eq_true (by first | (with_reducible assumption) | assumption)
                       obtain ⟨ad115, e115, hx115_0, hx115_1⟩ := at_T27 HR1.out x15_4 p115 q115
                       have hw115_1 := hx115_1
                       have hw115_0 := hx115_0
                       obtain rfl : ad114 = ad115 := (by injection e115)
                       replace hx115_0 := (HB.out.cell (blt_ hx115_0)).trans hx115_0
                       replace hx115_1 := (HB.out.cell (blt_ hx115_1)).trans hx115_1
                       replace p115 := eq_true p115
                       replace q115 := eq_true q115
                       have p116 : 0 ≤ (((rd_T27 l1 x15_4).snd) : Int) := of_decide_eq_true (by first | (with_reducible assumption) | assumption)
                       have q116 : ((rd_T27 l1 x15_4).snd) < (t107.length : Int) := of_decide_eq_true (by first | (with_reducible assumption) | assumption)
                       obtain ⟨ad116, e116, hx116_0⟩ := Kd.at_int (Kd.R_reads' HO_11.out).2.2 ((rd_T27 l1 x15_4).snd) p116 q116
                       obtain rfl : ad110 = ad116 := (by injection e116)
                       replace p116 := eq_true p116
                       replace q116 := eq_true q116
                       have p117 : 0 ≤ (x13_3 : Int) := of_decide_eq_true (by first | (with_reducible assumption) | assumption)
                       have q117 : x13_3 < (t107.length : Int) := of_decide_eq_true (by first | (with_reducible assumption) | assumption)
                       obtain ⟨ad117, e117, hx117_0⟩ := Kd.at_int (Kd.R_reads' HO_11.out).2.2 x13_3 p117 q117
                       obtain rfl : ad110 = ad117 := (by injection e117)
                       replace p117 := eq_true p117
                       replace q117 := eq_true q117
                       refine start_ (n := 28) (S := fun w' => w'.cell? (ad114.add ((x15_4).toNat * 2)) = some (.int .i64 ((rd_T27 l1 x15_4).fst)) ∧ w'.cell? ⟨(ad114.add ((x15_4).toNat * 2)).block, (ad114.add ((x15_4).toNat * 2)).off + 1, none⟩ = some (.int .i64 ((rd_T27 l1 x15_4).snd)) ∧ w'.cell? (ad110.add (((rd_T27 l1 x15_4).snd)).toNat) = some (.int .i64 (rd t107 ((rd_T27 l1 x15_4).snd))) ∧ w'.cell? (ad110.add (x13_3).toNat) = some (.int .i64 (rd t107 x13_3))) (ds := []) (bl 28 0) (by kernel_rfl) rfl rfl ⟨((HB.out.cell (blt_ hw115_0)).trans hw115_0), ((HB.out.cell (blt_ hw115_1)).trans hw115_1), hx116_0, hx117_0⟩ (fun hHeld => ?_); refine with_tabW lambrequinref10_Path.tab19 lambrequinref10_Path.bits19 (fun HT_ HW_ => ?_)
                       generalize wr.drew = w43 at HO_11 HO_12 HB hx115_0 hx115_1 hx116_0 hx117_0 hHeld ⊢
                       refine pure_ (i := 0) (N := some 85) (v := ?_) (a' := ?_) (bl 28 1) rfl rfl (any_of HT_.out (by kernel_rfl)) (fun _ _ _ h => h) (Or.inl ⟨by rfl, ?_⟩) ?_ ?_
                       rotate_left
                       ·intro w'
                        go_simp
                        with_reducible rfl
                       rotate_left
                       ·simp only [Act.put, sA, sZ, sS, i64_w, i32_w]
                        rfl
                       refine pure_ (i := 1) (N := some 86) (v := ?_) (a' := ?_) (bl 28 3) rfl rfl (any_of HT_.out (by kernel_rfl)) (fun _ _ _ h => h) (Or.inl ⟨by rfl, ?_⟩) ?_ ?_
                       rotate_left
                       ·intro w'
                        go_simp
                        with_reducible rfl
                       rotate_left
                       ·simp only [Act.put, sA, sZ, sS, i64_w, i32_w]
                        rfl
                       refine pure_ (i := 2) (N := some 87) (v := ?_) (a' := ?_) (bl 28 7) rfl rfl (any_of HT_.out (by kernel_rfl)) (fun _ _ _ h => h) (Or.inl ⟨by rfl, ?_⟩) ?_ ?_
                       rotate_left
                       ·intro w'
                        go_simp
                        with_reducible rfl
                       rotate_left
                       ·simp only [Act.put, sA, sZ, sS, i64_w, i32_w]
                        rfl
                       refine pure_ (i := 3) (N := some 88) (v := ?_) (a' := ?_) (bl 28 15) rfl rfl (any_of HT_.out (by kernel_rfl)) (fun _ _ _ h => h) (Or.inl ⟨by rfl, ?_⟩) ?_ ?_
                       rotate_left
                       ·intro w'
                        go_simp
                        with_reducible rfl
                       rotate_left
                       ·simp only [Act.put, sA, sZ, sS, i64_w, i32_w]
                        rfl
                       refine pure_ (i := 5) (N := some 90) (v := ?_) (a' := ?_) (bl 28 47) rfl rfl (any_of HT_.out (by kernel_rfl)) (fun _ _ _ h => h) (Or.inl ⟨by rfl, ?_⟩) ?_ ?_
                       rotate_left
                       ·intro w'
                        go_simp
                        with_reducible rfl
                       rotate_left
                       ·simp only [Act.put, sA, sZ, sS, i64_w, i32_w]
                        rfl
                       refine take_ (i := 4) (N := some 89) (v := ?_) (a' := ?_) (bl 28 63) rfl rfl (take_ofW HT_.out HW_.out (by kernel_rfl)) (fun _ _ _ h => h) (Or.inl ⟨by rfl, ?_⟩) hHeld ?_ ?_
                       rotate_left
                       ·rintro w' ⟨s0, s1, s2, s3⟩
                        go_simp
                        with_reducible rfl
                       rotate_left
                       ·simp only [Act.put, sA, sZ, sS, i64_w, i32_w]
                        rfl
                       refine pure_ (i := 6) (N := some 91) (v := ?_) (a' := ?_) (bl 28 127) rfl rfl (any_of HT_.out (by kernel_rfl)) (fun _ _ _ h => h) (Or.inl ⟨by rfl, ?_⟩) ?_ ?_
                       rotate_left
                       ·intro w'
                        go_simp
                        with_reducible rfl
                       rotate_left
                       ·simp only [Act.put, sA, sZ, sS, i64_w, i32_w]
                        rfl
                       refine pure_ (i := 7) (N := some 92) (v := ?_) (a' := ?_) (bl 28 255) rfl rfl (any_of HT_.out (by kernel_rfl)) (fun _ _ _ h => h) (Or.inl ⟨by rfl, ?_⟩) ?_ ?_
                       rotate_left
                       ·intro w'
                        go_simp
                        with_reducible rfl
                       rotate_left
                       ·simp only [Act.put, sA, sZ, sS, i64_w, i32_w]
                        rfl
                       refine pure_ (i := 8) (N := some 93) (v := ?_) (a' := ?_) (bl 28 511) rfl rfl (any_of HT_.out (by kernel_rfl)) (fun _ _ _ h => h) (Or.inl ⟨by rfl, ?_⟩) ?_ ?_
                       rotate_left
                       ·intro w'
                        go_simp
                        with_reducible rfl
                       rotate_left
                       ·simp only [Act.put, sA, sZ, sS, i64_w, i32_w]
                        rfl
                       refine pure_ (i := 9) (N := some 94) (v := ?_) (a' := ?_) (bl 28 1023) rfl rfl (any_of HT_.out (by kernel_rfl)) (fun _ _ _ h => h) (Or.inl ⟨by rfl, ?_⟩) ?_ ?_
                       rotate_left
                       ·intro w'
                        go_simp
                        with_reducible rfl
                       rotate_left
                       ·simp only [Act.put, sA, sZ, sS, i64_w, i32_w]
                        rfl
                       refine pure_ (i := 10) (N := some 95) (v := ?_) (a' := ?_) (bl 28 2047) rfl rfl (any_of HT_.out (by kernel_rfl)) (fun _ _ _ h => h) (Or.inl ⟨by rfl, ?_⟩) ?_ ?_
                       rotate_left
                       ·intro w'
                        go_simp
                        with_reducible rfl
                       rotate_left
                       ·simp only [Act.put, sA, sZ, sS, i64_w, i32_w]
                        rfl
                       refine pure_ (i := 12) (N := some 97) (v := ?_) (a' := ?_) (bl 28 6143) rfl rfl (any_of HT_.out (by kernel_rfl)) (fun _ _ _ h => h) (Or.inl ⟨by rfl, ?_⟩) ?_ ?_
                       rotate_left
                       ·intro w'
                        go_simp
                        with_reducible rfl
                       rotate_left
                       ·simp only [Act.put, sA, sZ, sS, i64_w, i32_w]
                        rfl
                       refine pure_ (i := 13) (N := some 98) (v := ?_) (a' := ?_) (bl 28 14335) rfl rfl (any_of HT_.out (by kernel_rfl)) (fun _ _ _ h => h) (Or.inl ⟨by rfl, ?_⟩) ?_ ?_
                       rotate_left
                       ·intro w'
                        go_simp
                        with_reducible rfl
                       rotate_left
                       ·simp only [Act.put, sA, sZ, sS, i64_w, i32_w]
                        rfl
                       refine pure_ (i := 14) (N := some 99) (v := ?_) (a' := ?_) (bl 28 30719) rfl rfl (any_of HT_.out (by kernel_rfl)) (fun _ _ _ h => h) (Or.inl ⟨by rfl, ?_⟩) ?_ ?_
                       rotate_left
                       ·intro w'
                        go_simp
                        with_reducible rfl
                       rotate_left
                       ·simp only [Act.put, sA, sZ, sS, i64_w, i32_w]
                        rfl
                       refine take_ (i := 11) (N := some 96) (v := ?_) (a' := ?_) (bl 28 32767) rfl rfl (take_ofW HT_.out HW_.out (by kernel_rfl)) (fun _ _ _ h => h) (Or.inl ⟨by rfl, ?_⟩) hHeld ?_ ?_
                       rotate_left
                       ·rintro w' ⟨s0, s1, s2, s3⟩
                        go_simp
                        with_reducible rfl
                       rotate_left
                       ·simp only [Act.put, sA, sZ, sS, i64_w, i32_w]
                        rfl
                       refine take_ (i := 15) (N := some 100) (v := ?_) (a' := ?_) (bl 28 65535) rfl rfl (take_ofW HT_.out HW_.out (by kernel_rfl)) (fun _ _ _ h => h) (Or.inl ⟨by rfl, ?_⟩) hHeld ?_ ?_
                       rotate_left
                       ·rintro w' ⟨s0, s1, s2, s3⟩
                        go_simp
                        with_reducible rfl
                       rotate_left
                       ·simp only [Act.put, sA, sZ, sS, i64_w, i32_w]
                        rfl
                       refine pure_ (i := 16) (N := some 101) (v := ?_) (a' := ?_) (bl 28 131071) rfl rfl (any_of HT_.out (by kernel_rfl)) (fun _ _ _ h => h) (Or.inl ⟨by rfl, ?_⟩) ?_ ?_
                       rotate_left
                       ·intro w'
                        go_simp
                        with_reducible rfl
                       rotate_left
                       ·simp only [Act.put, sA, sZ, sS, i64_w, i32_w]
                        rfl
                       refine pure_ (i := 17) (N := some 102) (v := ?_) (a' := ?_) (bl 28 262143) rfl rfl (any_of HT_.out (by kernel_rfl)) (fun _ _ _ h => h) (Or.inl ⟨by rfl, ?_⟩) ?_ ?_
                       rotate_left
                       ·intro w'
                        go_simp
                        with_reducible rfl
                       rotate_left
                       ·simp only [Act.put, sA, sZ, sS, i64_w, i32_w]
                        rfl
                       refine pure_ (i := 18) (N := some 103) (v := ?_) (a' := ?_) (bl 28 524287) rfl rfl (any_of HT_.out (by kernel_rfl)) (fun _ _ _ h => h) (Or.inl ⟨by rfl, ?_⟩) ?_ ?_
                       rotate_left
                       ·intro w'
                        go_simp
                        with_reducible rfl
                       rotate_left
                       ·simp only [Act.put, sA, sZ, sS, i64_w, i32_w]
                        rfl
                       refine pure_ (i := 19) (N := some 104) (v := ?_) (a' := ?_) (bl 28 1048575) rfl rfl (any_of HT_.out (by kernel_rfl)) (fun _ _ _ h => h) (Or.inl ⟨by rfl, ?_⟩) ?_ ?_
                       rotate_left
                       ·intro w'
                        go_simp
                        with_reducible rfl
                       rotate_left
                       ·simp only [Act.put, sA, sZ, sS, i64_w, i32_w]
                        rfl
                       refine pure_ (i := 20) (N := some 105) (v := undef) (a' := ?_) (bl 28 2097151) rfl rfl (any_of HT_.out (by kernel_rfl)) (fun _ _ _ h => h) (Or.inr ⟨by rfl, rfl⟩) ?_ ?_
                       rotate_left
                       ·simp only [Act.put, sA, sZ, sS, i64_w, i32_w]
                        rfl
                       refine pure_ (i := 21) (N := some 106) (v := undef) (a' := ?_) (bl 28 4194303) rfl rfl (any_of HT_.out (by kernel_rfl)) (fun _ _ _ h => h) (Or.inr ⟨by rfl, rfl⟩) ?_ ?_
                       rotate_left
                       ·simp only [Act.put, sA, sZ, sS, i64_w, i32_w]
                        rfl
                       refine pure_ (i := 22) (N := some 107) (v := undef) (a' := ?_) (bl 28 8388607) rfl rfl (any_of HT_.out (by kernel_rfl)) (fun _ _ _ h => h) (Or.inr ⟨by rfl, rfl⟩) ?_ ?_
                       rotate_left
                       ·simp only [Act.put, sA, sZ, sS, i64_w, i32_w]
                        rfl
                       refine pure_ (i := 23) (N := some 108) (v := undef) (a' := ?_) (bl 28 16777215) rfl rfl (any_of HT_.out (by kernel_rfl)) (fun _ _ _ h => h) (Or.inr ⟨by rfl, rfl⟩) ?_ ?_
                       rotate_left
                       ·simp only [Act.put, sA, sZ, sS, i64_w, i32_w]
                        rfl
                       refine pure_ (i := 24) (N := some 109) (v := undef) (a' := ?_) (bl 28 33554431) rfl rfl (any_of HT_.out (by kernel_rfl)) (fun _ _ _ h => h) (Or.inr ⟨by rfl, rfl⟩) ?_ ?_
                       rotate_left
                       ·simp only [Act.put, sA, sZ, sS, i64_w, i32_w]
                        rfl
                       refine pure_ (i := 25) (N := some 110) (v := undef) (a' := ?_) (bl 28 67108863) rfl rfl (any_of HT_.out (by kernel_rfl)) (fun _ _ _ h => h) (Or.inr ⟨by rfl, rfl⟩) ?_ ?_
                       rotate_left
                       ·simp only [Act.put, sA, sZ, sS, i64_w, i32_w]
                        rfl
                       refine pure_ (i := 26) (N := some 111) (v := undef) (a' := ?_) (bl 28 134217727) rfl rfl (any_of HT_.out (by kernel_rfl)) (fun _ _ _ h => h) (Or.inr ⟨by rfl, rfl⟩) ?_ ?_
                       rotate_left
                       ·simp only [Act.put, sA, sZ, sS, i64_w, i32_w]
                        rfl
                       refine pure_ (i := 27) (N := some 112) (v := ?_) (a' := ?_) (bl 28 268435455) rfl rfl (any_of HT_.out (by kernel_rfl)) (fun _ _ _ h => h) (Or.inl ⟨by rfl, ?_⟩) ?_ ?_
                       rotate_left
                       ·intro w'
                        go_simp
                        with_reducible rfl
                       rotate_left
                       ·simp only [Act.put, sA, sZ, sS, i64_w, i32_w]
                        rfl
                       refine done_ (done_of HT_.out (by kernel_rfl)) ?_
                       try go_wp2
                       go_roundg k4
                       case measure => have := HJ4.out; have := HK2.out; have := HK3.out; have := HK4.out; omega
                       case rel => exact ⟨(x14_4), (wrap64 (x15_4 + 1)), (by first | rfl | (simp; done) | (simp [*]; done)), (by first | rfl | (simp; done) | (simp [*]; done)), H', ⟨by have := HJ4.out; have := HK2.out; have := HK3.out; have := HK4.out; omega⟩, ⟨by (with_reducible repeat (first | apply Ra | apply Rn | apply Rd)); exact HO_11.out⟩, ⟨by (with_reducible repeat (first | apply Ra | apply Rn | apply Rd)); exact HO_12.out⟩, ⟨by repeat (first | (with_reducible first | exact HB.out | apply lA | apply lN | apply lD) | exact HB.out)⟩⟩
                     ·rw [if_neg c36] at H
                      exact absurd H (by simp)
                    ·rw [if_neg c35] at H
                     exact absurd H (by simp)
                   ·rw [if_neg c34] at H
                    exact absurd H (by simp)
                  ·rw [if_neg c33] at H
                   exact absurd H (by simp)
                 ·rw [if_neg c32] at H
                  have c32b0 : (((rd_T27 l1 x15_4).fst) == x13_3) = false := beq_eq_false_iff_ne.mpr c32
                  have c32b1 : (((rd_T27 l1 x15_4).fst) != x13_3) = true := bne_iff_ne.mpr c32
                  have H' := am H
                  clear H
                  have p114 : 0 ≤ (x15_4 : Int) := of_decide_eq_true (by first | (with_reducible assumption) | assumption)
                  have q114 : x15_4 < (l1.length : Int) := of_decide_eq_true (by first | (with_reducible assumption) | assumption)
                  obtain ⟨ad114, e114, hx114_0, hx114_1⟩ := at_T27 HR1.out x15_4 p114 q114
                  cases e114
                  replace hx114_0 := (HB.out.cell (blt_ hx114_0)).trans hx114_0
                  replace hx114_1 := (HB.out.cell (blt_ hx114_1)).trans hx114_1
                  replace p114 := eq_true p114
                  replace q114 := eq_true q114
                  try go_wp2
                  replace HO_11 := am (Kd.R_drew HO_11.out)
                  replace HO_12 := am (Kd.R_drew HO_12.out)
                  replace HB := am (below_drew1 HB.out)
                  have p115 : 0 ≤ (x15_4 : Int) := of_decide_eq_true (by first | (with_reducible assumption) | assumption)
                  have q115 : x15_4 < (l1.length : Int) := of_decide_eq_true (by first | (with_reducible assumption) | assumption)
                  obtain ⟨ad115, e115, hx115_0, hx115_1⟩ := at_T27 HR1.out x15_4 p115 q115
                  have hw115_1 := hx115_1
                  have hw115_0 := hx115_0
                  obtain rfl : ad114 = ad115 := (by injection e115)
                  replace hx115_0 := (HB.out.cell (blt_ hx115_0)).trans hx115_0
                  replace hx115_1 := (HB.out.cell (blt_ hx115_1)).trans hx115_1
                  replace p115 := eq_true p115
                  replace q115 := eq_true q115
                  refine start_ (n := 28) (S := fun w' => w'.cell? (ad114.add ((x15_4).toNat * 2)) = some (.int .i64 ((rd_T27 l1 x15_4).fst)) ∧ w'.cell? ⟨(ad114.add ((x15_4).toNat * 2)).block, (ad114.add ((x15_4).toNat * 2)).off + 1, none⟩ = some (.int .i64 ((rd_T27 l1 x15_4).snd))) (ds := []) (bl 28 0) (by kernel_rfl) rfl rfl ⟨((HB.out.cell (blt_ hw115_0)).trans hw115_0), ((HB.out.cell (blt_ hw115_1)).trans hw115_1)⟩ (fun hHeld => ?_); refine with_tabW lambrequinref10_Path.tab19 lambrequinref10_Path.bits19 (fun HT_ HW_ => ?_)
                  generalize wr.drew = w44 at HO_11 HO_12 HB hx115_0 hx115_1 hHeld ⊢
                  refine pure_ (i := 0) (N := some 85) (v := ?_) (a' := ?_) (bl 28 1) rfl rfl (any_of HT_.out (by kernel_rfl)) (fun _ _ _ h => h) (Or.inl ⟨by rfl, ?_⟩) ?_ ?_
                  rotate_left
                  ·intro w'
                   go_simp
                   with_reducible rfl
                  rotate_left
                  ·simp only [Act.put, sA, sZ, sS, i64_w, i32_w]
                   rfl
                  refine pure_ (i := 1) (N := some 86) (v := ?_) (a' := ?_) (bl 28 3) rfl rfl (any_of HT_.out (by kernel_rfl)) (fun _ _ _ h => h) (Or.inl ⟨by rfl, ?_⟩) ?_ ?_
                  rotate_left
                  ·intro w'
                   go_simp
                   with_reducible rfl
                  rotate_left
                  ·simp only [Act.put, sA, sZ, sS, i64_w, i32_w]
                   rfl
                  refine pure_ (i := 2) (N := some 87) (v := ?_) (a' := ?_) (bl 28 7) rfl rfl (any_of HT_.out (by kernel_rfl)) (fun _ _ _ h => h) (Or.inl ⟨by rfl, ?_⟩) ?_ ?_
                  rotate_left
                  ·intro w'
                   go_simp
                   with_reducible rfl
                  rotate_left
                  ·simp only [Act.put, sA, sZ, sS, i64_w, i32_w]
                   rfl
                  refine pure_ (i := 3) (N := some 88) (v := ?_) (a' := ?_) (bl 28 15) rfl rfl (any_of HT_.out (by kernel_rfl)) (fun _ _ _ h => h) (Or.inl ⟨by rfl, ?_⟩) ?_ ?_
                  rotate_left
                  ·intro w'
                   go_simp
                   with_reducible rfl
                  rotate_left
                  ·simp only [Act.put, sA, sZ, sS, i64_w, i32_w]
                   rfl
                  refine pure_ (i := 5) (N := some 90) (v := ?_) (a' := ?_) (bl 28 47) rfl rfl (any_of HT_.out (by kernel_rfl)) (fun _ _ _ h => h) (Or.inl ⟨by rfl, ?_⟩) ?_ ?_
                  rotate_left
                  ·intro w'
                   go_simp
                   with_reducible rfl
                  rotate_left
                  ·simp only [Act.put, sA, sZ, sS, i64_w, i32_w]
                   rfl
                  refine take_ (i := 4) (N := some 89) (v := ?_) (a' := ?_) (bl 28 63) rfl rfl (take_ofW HT_.out HW_.out (by kernel_rfl)) (fun _ _ _ h => h) (Or.inl ⟨by rfl, ?_⟩) hHeld ?_ ?_
                  rotate_left
                  ·rintro w' ⟨s0, s1⟩
                   go_simp
                   with_reducible rfl
                  rotate_left
                  ·simp only [Act.put, sA, sZ, sS, i64_w, i32_w]
                   rfl
                  refine pure_ (i := 6) (N := some 91) (v := ?_) (a' := ?_) (bl 28 127) rfl rfl (any_of HT_.out (by kernel_rfl)) (fun _ _ _ h => h) (Or.inl ⟨by rfl, ?_⟩) ?_ ?_
                  rotate_left
                  ·intro w'
                   go_simp
                   with_reducible rfl
                  rotate_left
                  ·simp only [Act.put, sA, sZ, sS, i64_w, i32_w]
                   rfl
                  refine pure_ (i := 7) (N := some 92) (v := ?_) (a' := ?_) (bl 28 255) rfl rfl (any_of HT_.out (by kernel_rfl)) (fun _ _ _ h => h) (Or.inl ⟨by rfl, ?_⟩) ?_ ?_
                  rotate_left
                  ·intro w'
                   go_simp
                   with_reducible rfl
                  rotate_left
                  ·simp only [Act.put, sA, sZ, sS, i64_w, i32_w]
                   rfl
                  refine pure_ (i := 8) (N := some 93) (v := undef) (a' := ?_) (bl 28 511) rfl rfl (any_of HT_.out (by kernel_rfl)) (fun _ _ _ h => h) (Or.inr ⟨by rfl, rfl⟩) ?_ ?_
                  rotate_left
                  ·simp only [Act.put, sA, sZ, sS, i64_w, i32_w]
                   rfl
                  refine pure_ (i := 9) (N := some 94) (v := undef) (a' := ?_) (bl 28 1023) rfl rfl (any_of HT_.out (by kernel_rfl)) (fun _ _ _ h => h) (Or.inr ⟨by rfl, rfl⟩) ?_ ?_
                  rotate_left
                  ·simp only [Act.put, sA, sZ, sS, i64_w, i32_w]
                   rfl
                  refine pure_ (i := 10) (N := some 95) (v := undef) (a' := ?_) (bl 28 2047) rfl rfl (any_of HT_.out (by kernel_rfl)) (fun _ _ _ h => h) (Or.inr ⟨by rfl, rfl⟩) ?_ ?_
                  rotate_left
                  ·simp only [Act.put, sA, sZ, sS, i64_w, i32_w]
                   rfl
                  refine pure_ (i := 11) (N := some 96) (v := undef) (a' := ?_) (bl 28 4095) rfl rfl (any_of HT_.out (by kernel_rfl)) (fun _ _ _ h => h) (Or.inr ⟨by rfl, rfl⟩) ?_ ?_
                  rotate_left
                  ·simp only [Act.put, sA, sZ, sS, i64_w, i32_w]
                   rfl
                  refine pure_ (i := 12) (N := some 97) (v := undef) (a' := ?_) (bl 28 8191) rfl rfl (any_of HT_.out (by kernel_rfl)) (fun _ _ _ h => h) (Or.inr ⟨by rfl, rfl⟩) ?_ ?_
                  rotate_left
                  ·simp only [Act.put, sA, sZ, sS, i64_w, i32_w]
                   rfl
                  refine pure_ (i := 13) (N := some 98) (v := undef) (a' := ?_) (bl 28 16383) rfl rfl (any_of HT_.out (by kernel_rfl)) (fun _ _ _ h => h) (Or.inr ⟨by rfl, rfl⟩) ?_ ?_
                  rotate_left
                  ·simp only [Act.put, sA, sZ, sS, i64_w, i32_w]
                   rfl
                  refine pure_ (i := 14) (N := some 99) (v := undef) (a' := ?_) (bl 28 32767) rfl rfl (any_of HT_.out (by kernel_rfl)) (fun _ _ _ h => h) (Or.inr ⟨by rfl, rfl⟩) ?_ ?_
                  rotate_left
                  ·simp only [Act.put, sA, sZ, sS, i64_w, i32_w]
                   rfl
                  refine pure_ (i := 15) (N := some 100) (v := undef) (a' := ?_) (bl 28 65535) rfl rfl (any_of HT_.out (by kernel_rfl)) (fun _ _ _ h => h) (Or.inr ⟨by rfl, rfl⟩) ?_ ?_
                  rotate_left
                  ·simp only [Act.put, sA, sZ, sS, i64_w, i32_w]
                   rfl
                  refine pure_ (i := 16) (N := some 101) (v := undef) (a' := ?_) (bl 28 131071) rfl rfl (any_of HT_.out (by kernel_rfl)) (fun _ _ _ h => h) (Or.inr ⟨by rfl, rfl⟩) ?_ ?_
                  rotate_left
                  ·simp only [Act.put, sA, sZ, sS, i64_w, i32_w]
                   rfl
                  refine pure_ (i := 17) (N := some 102) (v := undef) (a' := ?_) (bl 28 262143) rfl rfl (any_of HT_.out (by kernel_rfl)) (fun _ _ _ h => h) (Or.inr ⟨by rfl, rfl⟩) ?_ ?_
                  rotate_left
                  ·simp only [Act.put, sA, sZ, sS, i64_w, i32_w]
                   rfl
                  refine pure_ (i := 18) (N := some 103) (v := ?_) (a' := ?_) (bl 28 524287) rfl rfl (any_of HT_.out (by kernel_rfl)) (fun _ _ _ h => h) (Or.inl ⟨by rfl, ?_⟩) ?_ ?_
                  rotate_left
                  ·intro w'
                   go_simp
                   with_reducible rfl
                  rotate_left
                  ·simp only [Act.put, sA, sZ, sS, i64_w, i32_w]
                   rfl
                  refine pure_ (i := 19) (N := some 104) (v := ?_) (a' := ?_) (bl 28 1048575) rfl rfl (any_of HT_.out (by kernel_rfl)) (fun _ _ _ h => h) (Or.inl ⟨by rfl, ?_⟩) ?_ ?_
                  rotate_left
                  ·intro w'
                   go_simp
                   with_reducible rfl
                  rotate_left
                  ·simp only [Act.put, sA, sZ, sS, i64_w, i32_w]
                   rfl
                  refine pure_ (i := 20) (N := some 105) (v := undef) (a' := ?_) (bl 28 2097151) rfl rfl (any_of HT_.out (by kernel_rfl)) (fun _ _ _ h => h) (Or.inr ⟨by rfl, rfl⟩) ?_ ?_
                  rotate_left
                  ·simp only [Act.put, sA, sZ, sS, i64_w, i32_w]
                   rfl
                  refine pure_ (i := 21) (N := some 106) (v := undef) (a' := ?_) (bl 28 4194303) rfl rfl (any_of HT_.out (by kernel_rfl)) (fun _ _ _ h => h) (Or.inr ⟨by rfl, rfl⟩) ?_ ?_
                  rotate_left
                  ·simp only [Act.put, sA, sZ, sS, i64_w, i32_w]
                   rfl
                  refine pure_ (i := 22) (N := some 107) (v := undef) (a' := ?_) (bl 28 8388607) rfl rfl (any_of HT_.out (by kernel_rfl)) (fun _ _ _ h => h) (Or.inr ⟨by rfl, rfl⟩) ?_ ?_
                  rotate_left
                  ·simp only [Act.put, sA, sZ, sS, i64_w, i32_w]
                   rfl
                  refine pure_ (i := 23) (N := some 108) (v := undef) (a' := ?_) (bl 28 16777215) rfl rfl (any_of HT_.out (by kernel_rfl)) (fun _ _ _ h => h) (Or.inr ⟨by rfl, rfl⟩) ?_ ?_
                  rotate_left
                  ·simp only [Act.put, sA, sZ, sS, i64_w, i32_w]
                   rfl
                  refine pure_ (i := 24) (N := some 109) (v := undef) (a' := ?_) (bl 28 33554431) rfl rfl (any_of HT_.out (by kernel_rfl)) (fun _ _ _ h => h) (Or.inr ⟨by rfl, rfl⟩) ?_ ?_
                  rotate_left
                  ·simp only [Act.put, sA, sZ, sS, i64_w, i32_w]
                   rfl
                  refine pure_ (i := 25) (N := some 110) (v := undef) (a' := ?_) (bl 28 67108863) rfl rfl (any_of HT_.out (by kernel_rfl)) (fun _ _ _ h => h) (Or.inr ⟨by rfl, rfl⟩) ?_ ?_
                  rotate_left
                  ·simp only [Act.put, sA, sZ, sS, i64_w, i32_w]
                   rfl
                  refine pure_ (i := 26) (N := some 111) (v := undef) (a' := ?_) (bl 28 134217727) rfl rfl (any_of HT_.out (by kernel_rfl)) (fun _ _ _ h => h) (Or.inr ⟨by rfl, rfl⟩) ?_ ?_
                  rotate_left
                  ·simp only [Act.put, sA, sZ, sS, i64_w, i32_w]
                   rfl
                  refine pure_ (i := 27) (N := some 112) (v := ?_) (a' := ?_) (bl 28 268435455) rfl rfl (any_of HT_.out (by kernel_rfl)) (fun _ _ _ h => h) (Or.inl ⟨by rfl, ?_⟩) ?_ ?_
                  rotate_left
                  ·intro w'
                   go_simp
                   with_reducible rfl
                  rotate_left
                  ·simp only [Act.put, sA, sZ, sS, i64_w, i32_w]
                   rfl
                  refine done_ (done_of HT_.out (by kernel_rfl)) ?_
                  try go_wp2
                  go_roundg k4
                  case measure => have := HJ4.out; have := HK2.out; have := HK3.out; have := HK4.out; omega
                  case rel => exact ⟨(x14_4), (wrap64 (x15_4 + 1)), (by first | rfl | (simp; done) | (simp [*]; done)), (by first | rfl | (simp; done) | (simp [*]; done)), H', ⟨by have := HJ4.out; have := HK2.out; have := HK3.out; have := HK4.out; omega⟩, ⟨by (with_reducible repeat (first | apply Ra | apply Rn | apply Rd)); exact HO_11.out⟩, ⟨by (with_reducible repeat (first | apply Ra | apply Rn | apply Rd)); exact HO_12.out⟩, ⟨by repeat (first | (with_reducible first | exact HB.out | apply lA | apply lN | apply lD) | exact HB.out)⟩⟩
                ·rw [if_neg c31] at H
                 exact absurd H (by simp)
               ·rw [if_neg c30] at H
                have c30b0 : decide (x15_4 < (l1.length : Int)) = false := decide_eq_false c30
                clear c30
                by_cases c45 : x12_3.length < 17592186044416
                ·rw [if_pos c45] at H
                 have LMc45 := am c45
                 clear c45
                 obtain ⟨y118, hy118⟩ : ∃ y_ : List Int, y_ = (x12_3 ++ [x14_4]) := ⟨_, rfl⟩
                 replace H : (lambrequinref10_Path.l1 k4 l1 a3 t107 y118 x14_4) = some r := by first | (rw [hy118]; with_reducible exact H) | (have H2_ := (Option.bind_some _ _).symm.trans H; rw [hy118]; with_reducible exact H2_) | (have H2_ := (Option.bind_some _ _).symm.trans H; with_reducible exact H2_) | with_reducible exact H | (rw [hy118]; exact H) | exact H
                 have Ny118 := am hy118
                 clear hy118
                 have H' := am H
                 clear H
                 go_wp2_with (first | ((with_reducible refine gate_builtin (b := .append) (xs := #[.tmp 115, .tmp 117]) rfl ?_); at_builtin; refine Kd.R_append (Kd.int .i64) (w0 := w) w.heap.size rfl (.tmp 115) (.tmp 117) 35 3 (.int .i64 0) 8 rfl Try.underlying35 info3 rfl (by decide) (by omega) u12 x12_3 x14_4 [.int .i64 x14_4] (fun k_ => some k_ ≠ (.slice (some ad110) t107.length co26 : Value).ownBlock) (fun _ => False) rfl rfl ?aP (fun _ hk => hk.elim) ?aF ?aO ?aB ?aS ?aL ?_; (case aP => exact rfl); (case aB => exact (by repeat (first | (with_reducible first | exact HB.out | apply lA | apply lN | apply lD) | exact HB.out))); (case aF => exact (fun k_ hk => Kd.fresh' (Kd.R_lt (by (with_reducible repeat (first | apply Ra | apply Rn | apply Rd)); exact HO_11.out)) k_ hk)); (case aO => exact (by (with_reducible repeat (first | apply Ra | apply Rn | apply Rd)); exact HO_12.out)); (case aS => exact (below_size (by repeat (first | (with_reducible first | exact HB.out | apply lA | apply lN | apply lD) | exact HB.out)))); (case aL => have := LMc45.out; omega); intro v119 w46 ho hb hg hat; rw [← Ny118.out] at ho; replace HO_11 := am (Kd.R_after (ok := (fun _ => True)) (by (with_reducible repeat (first | apply Ra | apply Rn | apply Rd)); exact Kd.R_mono HO_11.out (fun _ hk => ⟨trivial, hk⟩)) hg hat); replace HB := am (hb); have HO120 := am (ho); clear HO_12; clear ho hb hg hat))
                 go_roundg k4
                 case measure => have := HJ4.out; have := HK2.out; have := HK3.out; have := HK4.out; omega
                 case rel => exact ⟨(y118), (x14_4), (by first | rfl | (simp; done) | (simp [*]; done)), H', ⟨by have := HJ4.out; have := HK2.out; have := HK3.out; have := HK4.out; omega⟩, ⟨by (with_reducible repeat (first | apply Ra | apply Rn | apply Rd)); exact Kd.R_mono HO_11.out (fun _ hk => hk.2)⟩, ⟨by (with_reducible repeat (first | apply Ra | apply Rn | apply Rd)); exact HO120.out⟩, ⟨by repeat (first | (with_reducible first | exact HB.out | apply lA | apply lN | apply lD) | exact HB.out)⟩⟩
                ·rw [if_neg c45] at H
                 exact absurd H (by simp)
        ·rw [if_neg c19] at H
         exact absurd H (by simp)
       ·rw [if_neg c18] at H
        exact absurd H (by simp)
end Go.Proofs.Ytmlhnjonmjmhdaa.H
/- the document's own path -/
namespace Go.Proofs.Ytmlhnjonmjmhdaa.H
open Go.RowKit Go.Proofs.YtmlhnjonmjmhdaaW.PrintWords
def sw (e : IPair) : IPair := ⟨e.snd, e.fst⟩
theorem sw_sw (l : List IPair) : (l.map sw).map sw = l := by
  rw [List.map_map]
  exact List.map_id'' (fun _ => rfl) l
theorem inE_sw {n : Nat} {l : List IPair} (h : inE n l) : inE n (l.map sw) := by
  intro e he
  obtain ⟨x, hx, rfl⟩ := List.mem_map.1 he
  have := h x hx
  exact ⟨this.2.2.1, this.2.2.2, this.1, this.2.1⟩
theorem wk_back {n : Nat} {l : List IPair} (hin : inE n l) {b m v : Nat} (h : Wk (rws n (l.map sw)) b m v) : Wk (rws n l) v m b := by
  induction h with
  | refl => exact .refl
  | step h hy ih =>
    rename_i m i y
    obtain ⟨_, e, he, h1, h2⟩ := mem_rws.1 hy
    obtain ⟨x, hx, rfl⟩ := List.mem_map.1 he
    have hxb := hin x hx
    have h1 : x.snd.toNat = i := h1
    have h2 : x.fst = y := h2
    have h3 : Wk (rws n l) y.toNat 1 x.snd.toNat := .step .refl (mem_rws.2 ⟨by omega, x, hx, by rw [h2], rfl⟩)
    rw [h1] at h3
    have := h3.trans ih
    rwa [Nat.add_comm] at this
theorem wk_forth {n : Nat} {l : List IPair} (hin : inE n l) {b m v : Nat} (h : Wk (rws n l) v m b) : Wk (rws n (l.map sw)) b m v := by
  have := wk_back (inE_sw hin) (b := v) (m := m) (v := b) (by rw [sw_sw]; exact h)
  exact this
theorem rpath_l0 {n : Nat} {l : List IPair} (hl : l.length ≤ 1000000) {x2 x3 : Int} {R : List Int} (next : Ev (fun k => (lambrequinref10_Steps.f k (n : Int) (l.map sw) x3).bind fun t107 => (if 0 ≤ x2 then (if x2 < (t107.length : Int) then (if (rd t107 x2) < 0 then (some ([] : List Int)) else (lambrequinref10_Path.l1 k l x3 t107 (([x2] : List Int)) x2)) else (none)) else (none))) R) :
    ∀ (d : List IPair) (i : Nat), l.drop i = d → Ev (fun k => lambrequinref10_Path.l0 k (n : Int) l x2 x3 ((l.take i).map sw) (i : Int)) R
  | [], i, hd => by
    have hi := drop_end hd
    refine Ev.step (fun k => by rw [lambrequinref10_Path.l0]) ?_
    refine Ev.neg hi ?_
    rw [List.take_of_length_le (by omega)]
    exact next
  | y :: d, i, hd => by
    obtain ⟨h1, h2, h3, h4, h5⟩ := drop_more hd (by omega)
    have e : rd_T27 l (i : Int) = y := h3 _
    have hy : l[i]? = some y := by
      have := congrArg (fun z => z[0]?) hd
      simpa using this
    have ih := rpath_l0 hl next d (i + 1) h4
    rw [take_snoc hy, List.map_append, List.map_singleton] at ih
    refine Ev.step (fun k => by rw [lambrequinref10_Path.l0]) ?_
    rw [e, h5]
    clear h5
    exact Ev.pos h1 (Ev.pos h2 (Ev.pos (by simp; omega) ih))
theorem wrap_pred {q : Nat} (h0 : 0 < q) (h : q ≤ 1000000) : wrap64 ((q : Int) - 1) = ((q - 1 : Nat) : Int) := by unfold wrap64; omega
theorem rpath_l2 {n m i : Nat} {l : List IPair} (hn : n ≤ 1000) (hl : l.length ≤ 1000000) (hin : inE n l) {left out R : List Int} (hll : left.length = n) {x y : Int} {x3 : Int} (hxl : left.getD x.toNat 0 = ((m - i : Nat) : Int)) (him : i < m) (hmn : m ≤ 100000) (hxb : 0 ≤ x ∧ x < (n : Int)) (hyb : 0 ≤ y)
    (hmin : ∀ e ∈ l, e.fst = x → left.getD e.snd.toNat 0 = ((m - i - 1 : Nat) : Int) → y ≤ e.snd) (hout : out.length ≤ 1000000) (next : Ev (fun k => lambrequinref10_Path.l1 k l x3 left (out ++ [y]) y) R) :
    ∀ (d : List IPair) (j : Nat) (best : Int), l.drop j = d → (best = y ∨ ((best < 0 ∨ y < best) ∧ ∃ e ∈ d, e.fst = x ∧ e.snd = y ∧ left.getD e.snd.toNat 0 = ((m - i - 1 : Nat) : Int))) → Ev (fun k => lambrequinref10_Path.l2 k l x3 left out x best (j : Int)) R
  | [], j, best, hd, hc => by
    have hb : best = y := by
      rcases hc with h | ⟨_, e, he, _⟩
      · exact h
      · cases he
    subst hb
    refine Ev.step (fun k => by rw [lambrequinref10_Path.l2]) ?_
    exact Ev.neg (drop_end hd) (Ev.pos (by omega) next)
  | e :: d, j, best, hd, hc => by
    obtain ⟨h1, h2, h3, h4, h5⟩ := drop_more hd (by omega)
    have er : rd_T27 l (j : Int) = e := h3 _
    have hel : e ∈ l := List.mem_of_mem_drop (by rw [hd]; exact List.mem_cons_self)
    have heb := hin e hel
    have ih := fun best' hb => rpath_l2 hn hl hin hll hxl him hmn hxb hyb hmin hout next d (j + 1) best' h4 hb
    have rdg : ∀ z : Int, rd left z = left.getD z.toNat 0 := fun z => rfl
    have ew : wrap64 (((m - i : Nat) : Int) - 1) = ((m - i - 1 : Nat) : Int) := wrap_pred (by clear h5 hc; omega) (by clear h5 hc; omega)
    refine Ev.step (fun k => by rw [lambrequinref10_Path.l2]) ?_
    rw [er, h5, rdg, rdg, hxl, ew]
    clear h5 ew
    have rest : ¬ (e.fst = x ∧ e.snd = y ∧ left.getD e.snd.toNat 0 = ((m - i - 1 : Nat) : Int)) → (best = y ∨ ((best < 0 ∨ y < best) ∧ ∃ e ∈ d, e.fst = x ∧ e.snd = y ∧ left.getD e.snd.toNat 0 = ((m - i - 1 : Nat) : Int))) := by
      intro hno
      rcases hc with h | ⟨h, e', he', hq⟩
      · exact .inl h
      · rcases List.mem_cons.1 he' with rfl | he'
        · exact absurd hq hno
        · exact .inr ⟨h, e', he', hq⟩
    refine Ev.pos h1 (Ev.pos h2 ?_)
    by_cases c1 : e.fst = x
    · refine Ev.pos c1 (Ev.pos (by omega) (Ev.pos (by omega) (Ev.pos (by omega) (Ev.pos (by omega) ?_))))
      by_cases c2 : left.getD e.snd.toNat 0 = ((m - i - 1 : Nat) : Int)
      · have hle := hmin e hel c1 c2
        have took : (best < 0 ∨ y < best) → (e.snd = y ∨ ((e.snd < 0 ∨ y < e.snd) ∧ ∃ e ∈ d, e.fst = x ∧ e.snd = y ∧ left.getD e.snd.toNat 0 = ((m - i - 1 : Nat) : Int))) := by
          intro hb
          by_cases c3 : e.snd = y
          · exact .inl c3
          · refine .inr ⟨.inr (by omega), ?_⟩
            rcases hc with h | ⟨_, e', he', hq⟩
            · omega
            · rcases List.mem_cons.1 he' with rfl | he'
              · exact absurd hq.2.1 c3
              · exact ⟨e', he', hq⟩
        refine Ev.pos c2 ?_
        by_cases c4 : best < 0
        · exact Ev.pos c4 (ih _ (took (.inl c4)))
        · refine Ev.neg c4 ?_
          by_cases c5 : e.snd < best
          · refine Ev.pos c5 (ih _ (took ?_))
            rcases hc with h | ⟨h, _⟩
            · omega
            · exact h
          · refine Ev.neg c5 (ih _ ?_)
            rcases hc with h | ⟨h, _⟩
            · exact .inl h
            · exact rest (fun hq => by omega)
      · exact Ev.neg c2 (ih _ (rest (fun hq => c2 hq.2.2)))
    · exact Ev.neg c1 (ih _ (rest (fun hq => c1 hq.1)))
theorem rpath_l1 {n a b : Nat} {l : List IPair} (hl : l.length ≤ 1000000) (hb : cleanBad (n : Int) l = false) (ha : a < n) (hbn : b < n) {p : List Int} (hev : Ev (fun k => graph_Path.f k (n : Int) l (a : Int) (b : Int)) p) (hp : IsP (rws n l) a b p)
    {left : List Int} (hs : SV n (l.map sw) b n [] left) : ∀ (d i : Nat) (x : Int), i + d + 1 = p.length → p[i]? = some x → Ev (fun k => lambrequinref10_Path.l1 k l (b : Int) left (p.take (i + 1)) x) p
  | 0, i, x, h, hx => by
    have : x = (b : Int) := by
      have := hp.lst
      rw [show p.length - 1 = i by omega, hx] at this
      exact Option.some.inj this
    refine Ev.step (fun k => by rw [lambrequinref10_Path.l1]) ?_
    rw [List.take_of_length_le (by omega)]
    exact Ev.pos this (Ev.now _)
  | d + 1, i, x, h, hx => by
    have hn := bad_n hb
    have hin := good_in hb
    have hpf := hp.few
    rw [rws_len] at hpf
    have hy : p[i + 1]? = some p[i + 1] := List.getElem?_eq_getElem (by omega)
    have ih := rpath_l1 hl hb ha hbn hev hp hs d (i + 1) _ (by omega) hy
    rw [take_snoc hy] at ih
    have hxb := hp.bnd x (List.mem_of_getElem? hx)
    have hyb := hp.bnd _ (List.mem_of_getElem? hy)
    rw [rws_len] at hxb hyb
    have hedge := hp.edge i _ _ hx hy
    obtain ⟨_, e, he, he1, he2⟩ := mem_rws.1 hedge
    have heb := hin e he
    -- how far it is from a node of the path
    have wa : ∀ j v, p[j]? = some v → Wk (rws n l) a j v.toNat := fun j v hv => by
      have := hp.walk j 0 _ _ hp.fst (by rw [Nat.zero_add]; exact hv)
      rwa [Int.toNat_natCast] at this
    have wb : ∀ j v, p[j]? = some v → Wk (rws n l) v.toNat (p.length - 1 - j) b := fun j v hv => by
      have hj := (List.getElem?_eq_some_iff.1 hv).1
      have := hp.walk (p.length - 1 - j) j _ _ hv (by rw [show j + (p.length - 1 - j) = p.length - 1 by omega]; exact hp.lst)
      rwa [Int.toNat_natCast] at this
    have far : ∀ j v, p[j]? = some v → left.getD v.toNat 0 = ((p.length - 1 - j : Nat) : Int) := by
      intro j v hv
      have hvb := hp.bnd v (List.mem_of_getElem? hv)
      rw [rws_len] at hvb
      have hj := (List.getElem?_eq_some_iff.1 hv).1
      have hw := wk_forth hin (wb j v hv)
      rcases hs.val v.toNat (by omega) with ⟨_, h2, _⟩ | ⟨q, _, h1, h2, h3⟩
      · exact absurd hw (h2 _ (by omega))
      · have h4 := h3 _ hw
        have h5 := hp.short _ ((wa j v hv).trans (wk_back hin h2))
        rw [h1]
        omega
    have hxne : ¬ x = (b : Int) := by
      intro e2
      have h5 := wa i x hx
      rw [e2, Int.toNat_natCast] at h5
      have := hp.short _ h5
      omega
    refine Ev.step (fun k => by rw [lambrequinref10_Path.l1]) ?_
    refine Ev.neg hxne ?_
    have hfx := far i x hx
    have hfy := far (i + 1) _ hy
    rw [show p.length - 1 - (i + 1) = p.length - 1 - i - 1 by omega] at hfy
    refine rpath_l2 (m := p.length - 1) hn hl hin hs.len hfx (by omega) (by omega) hxb hyb.1 ?_ (by rw [List.length_take]; omega) ih l 0 (-1) rfl (.inr ⟨.inl (by omega), e, he, by omega, he2, by rw [he2]; exact hfy⟩)
    intro e' he' h1 h2
    have heb' := hin e' he'
    refine Path_least hl hb ha hbn hev hp hx hy (mem_rws.2 ⟨by omega, e', he', by omega, rfl⟩) ?_
    rcases hs.val e'.snd.toNat (by omega) with ⟨h3, _⟩ | ⟨q, _, h3, h4, _⟩
    · omega
    · have : q = p.length - 1 - (i + 1) := by omega
      rw [← this]
      exact wk_back hin h4
theorem refPath_in {n a b : Nat} {l : List IPair} (hl : l.length ≤ 1000000) (hb : cleanBad (n : Int) l = false) (ha : a < n) (hbn : b < n) {p : List Int} (hev : Ev (fun k => graph_Path.f k (n : Int) l (a : Int) (b : Int)) p) : Ev (fun k => lambrequinref10_Path.f k (n : Int) l (a : Int) (b : Int)) p := by
  have hn := bad_n hb
  have hin := good_in hb
  obtain ⟨left, hst, hs⟩ := Steps_ex (a := b) (by omega) hbn (inE_sw hin) (by rw [List.length_map]; exact hl)
  have hsl := hs.len
  unfold lambrequinref10_Path.f
  have hm := may_ev (n := (n : Int)) hl
  rw [hb] at hm
  refine Ev.bind hm (Ev.pos (by decide) (Ev.neg (by omega) (Ev.neg (by omega) (Ev.neg (by omega) ?_))))
  rw [show decide ((b : Int) ≥ (n : Int)) = false by simp; omega]
  refine Ev.step (fun k => by rw [lambrequinref10_Path.j0]) ?_
  refine Ev.neg (by decide) (rpath_l0 hl ?_ l 0 rfl)
  have rdg : rd left (a : Int) = left.getD a 0 := by show left.getD ((a : Int)).toNat 0 = _; rw [Int.toNat_natCast]
  refine Ev.bind hst (Ev.pos (by omega) (Ev.pos (by omega) ?_))
  rw [rdg]
  by_cases hr : Rch (rws n l) a b
  · obtain ⟨p', hev', hp, _⟩ := (Path_is hl hb ha hbn).1 hr
    have e := Ev.uniq hev hev'
    subst e
    have hf := hp.few
    rw [rws_len] at hf
    have hw := hp.walk (p.length - 1) 0 _ _ hp.fst (by rw [Nat.zero_add]; exact hp.lst)
    rw [Int.toNat_natCast, Int.toNat_natCast] at hw
    have hpos : ¬ left.getD a 0 < 0 := by
      rcases hs.val a ha with ⟨_, h2, _⟩ | ⟨q, _, h1, _, _⟩
      · exact absurd (wk_forth hin hw) (h2 _ (by omega))
      · omega
    have hone : p.take 1 = [(a : Int)] := by
      have h1 := hp.fst
      cases p with
      | nil => cases h1
      | cons v r => simp at h1; simp [h1]
    have hpp := hp.pos
    have := rpath_l1 hl hb ha hbn hev hp hs (p.length - 1) 0 (a : Int) (by omega) hp.fst
    rw [Nat.zero_add, hone] at this
    exact Ev.neg hpos this
  · have e := Ev.uniq hev ((Path_is hl hb ha hbn).2 hr)
    have hneg : left.getD a 0 < 0 := by
      rcases hs.val a ha with ⟨h1, _, _⟩ | ⟨q, _, _, h2, _⟩
      · omega
      · exact absurd (wk_back hin h2).rch hr
    exact Ev.pos hneg (Ev.some e.symm)
end Go.Proofs.Ytmlhnjonmjmhdaa.H

/- RowGraphTells of the seat's law GraphTells: the law holds, under the statement's own conditions. -/
import Derived.Test.YtmlhnjonmjmhdaaNXGraphTells
import Derived.Test.YtmlhnjonmjmhdaaNXGraphTells1
import Derived.Test.YtmlhnjonmjmhdaaNXGraphTells2
import Derived.Test.YtmlhnjonmjmhdaaNXGraphTells4
import Derived.Test.YtmlhnjonmjmhdaaNXGraphTells3
import Derived.Test.YtmlhnjonmjmhdaaRows
import Derived.Test.YtmlhnjonmjmhdaaNW
import Derived.WalkKit
import Derived.ProofKit
import Derived.OpenShut
import Derived.ShutString
import Derived.ChangeOld
import Derived.Below
import Derived.SizedLaws
import Derived.Carry
set_option linter.unusedVariables false
set_option linter.unusedSimpArgs false
set_option linter.unusedSectionVars false
namespace Go.Proofs.Ytmlhnjonmjmhdaa.H
open Go.RowKit Go.Proofs.YtmlhnjonmjmhdaaW.PrintWords Go.Proofs.YtmlhnjonmjmhdaaW.PrintLast Go.Proofs.YtmlhnjonmjmhdaaW.PrintMore
attribute [local go_sem] max2_int min2_int max_two min_two max_three min_three max_four min_four
attribute [local go_sem high] eqA27
mutual
def lambrequinlaw10_GraphTells.j0 : Nat → Int → List (IPair) → Int → Int → Bool → Bool → Option (Bool)
 | 0, _, _, _, _, _, _ => none
 | k + 1, x0, x1, x2, x3, x9, x29 => if x29 = true then (some x9) else ((graph_Clean.f x0 x1).bind fun bt102 => ((lambrequinref10_Clean.f k x0 x1).bind fun bt106 => (if bt102.2 = bt106.2 then (lambrequinlaw10_GraphTells.j1 k x0 x1 x2 x3 x9 bt102.1 bt106.1 ((bt102.1.length : Int) != (bt106.1.length : Int))) else (lambrequinlaw10_GraphTells.j1 k x0 x1 x2 x3 x9 bt102.1 bt106.1 true))))
def lambrequinlaw10_GraphTells.j1 : Nat → Int → List (IPair) → Int → Int → Bool → List (IPair) → List (IPair) → Bool → Option (Bool)
 | 0, _, _, _, _, _, _, _, _ => none
 | k + 1, x0, x1, x2, x3, x9, x10, x12, x52 => if x52 = true then (some false) else (lambrequinlaw10_GraphTells.l0 k x0 x1 x2 x3 x9 x10 x12 0)
def lambrequinlaw10_GraphTells.l0 : Nat → Int → List (IPair) → Int → Int → Bool → List (IPair) → List (IPair) → Int → Option (Bool)
 | 0, _, _, _, _, _, _, _, _ => none
 | k + 1, x0, x1, x2, x3, x9, x10, x12, x14 => if x14 < (x10.length : Int) then (if 0 ≤ x14 then (if x14 < (x12.length : Int) then (if (!(((rd_T27 x10 x14).fst) == ((rd_T27 x12 x14).fst)) || (!(((rd_T27 x10 x14).snd) == ((rd_T27 x12 x14).snd)))) = true then (some false) else (lambrequinlaw10_GraphTells.l0 k x0 x1 x2 x3 x9 x10 x12 (wrap64 (x14 + 1)))) else (none)) else (none)) else ((graph_Reach.f k x0 x1 x2).bind fun t112 => ((lambrequinref10_Reach.f k x0 x1 x2).bind fun t115 => (if (t112.length : Int) = (t115.length : Int) then (lambrequinlaw10_GraphTells.l1 k x0 x1 x2 x3 x9 t112 t115 0) else (some false))))
def lambrequinlaw10_GraphTells.l1 : Nat → Int → List (IPair) → Int → Int → Bool → List Bool → List Bool → Int → Option (Bool)
 | 0, _, _, _, _, _, _, _, _ => none
 | k + 1, x0, x1, x2, x3, x9, x15, x16, x17 => if x17 < (x15.length : Int) then (if 0 ≤ x17 then (if x17 < (x16.length : Int) then (if ((rdOf false x15 x17) != (rdOf false x16 x17)) = true then (some false) else (lambrequinlaw10_GraphTells.l1 k x0 x1 x2 x3 x9 x15 x16 (wrap64 (x17 + 1)))) else (none)) else (none)) else (if x9 = true then ((graph_Parts.f k x0 x1).bind fun t120 => ((lambrequinref10_Parts.f k x0 x1).bind fun t123 => ((lambrequinref10_Lists.f k t120 t123).bind fun t126 => (if t126 = true then ((graph_Path.f k x0 x1 x2 x3).bind fun t127 => ((lambrequinref10_Path.f k x0 x1 x2 x3).bind fun t130 => ((lambrequinref10_Ints.f k t127 t130).bind fun t133 => (some t133)))) else (some false))))) else (some false))
end
def lambrequinlaw10_GraphTells.f (k : Nat) (a0 : Int) (l1 : List (IPair)) (a2 : Int) (a3 : Int) : Option (Bool) := (lambrequinlaw10_shown.f k).bind fun t101 => (if (l1.length : Int) > 200 then (lambrequinlaw10_GraphTells.j0 k a0 l1 a2 a3 t101 true) else (if a0 > 30 then (lambrequinlaw10_GraphTells.j0 k a0 l1 a2 a3 t101 (decide (a0 ≤ 1000))) else (lambrequinlaw10_GraphTells.j0 k a0 l1 a2 a3 t101 false)))
theorem lambrequinlaw10_GraphTells.mono_l : ∀ k, (∀ y0 y1 y2 y3 y4 y5, LeO (lambrequinlaw10_GraphTells.j0 k y0 y1 y2 y3 y4 y5) (lambrequinlaw10_GraphTells.j0 (k + 1) y0 y1 y2 y3 y4 y5)) ∧ (∀ y0 y1 y2 y3 y4 y5 y6 y7, LeO (lambrequinlaw10_GraphTells.j1 k y0 y1 y2 y3 y4 y5 y6 y7) (lambrequinlaw10_GraphTells.j1 (k + 1) y0 y1 y2 y3 y4 y5 y6 y7)) ∧ (∀ y0 y1 y2 y3 y4 y5 y6 y7, LeO (lambrequinlaw10_GraphTells.l0 k y0 y1 y2 y3 y4 y5 y6 y7) (lambrequinlaw10_GraphTells.l0 (k + 1) y0 y1 y2 y3 y4 y5 y6 y7)) ∧ (∀ y0 y1 y2 y3 y4 y5 y6 y7, LeO (lambrequinlaw10_GraphTells.l1 k y0 y1 y2 y3 y4 y5 y6 y7) (lambrequinlaw10_GraphTells.l1 (k + 1) y0 y1 y2 y3 y4 y5 y6 y7))
 | 0 => ⟨fun _ _ _ _ _ _ r h => by simp [lambrequinlaw10_GraphTells.j0] at h, fun _ _ _ _ _ _ _ _ r h => by simp [lambrequinlaw10_GraphTells.j1] at h, fun _ _ _ _ _ _ _ _ r h => by simp [lambrequinlaw10_GraphTells.l0] at h, fun _ _ _ _ _ _ _ _ r h => by simp [lambrequinlaw10_GraphTells.l1] at h⟩
 | k + 1 => by
  obtain ⟨ih0, ih1, ih2, ih3⟩ := lambrequinlaw10_GraphTells.mono_l k
  refine ⟨?_, ?_, ?_, ?_⟩
  ·intro y0 y1 y2 y3 y4 y5
   unfold lambrequinlaw10_GraphTells.j0
   repeat' first
   | (with_reducible exact ih0 _ _ _ _ _ _)
   | (with_reducible exact ih1 _ _ _ _ _ _ _ _)
   | (with_reducible exact ih2 _ _ _ _ _ _ _ _)
   | (with_reducible exact ih3 _ _ _ _ _ _ _ _)
   | (with_reducible exact graph_Parts.mono _ _ _)
   | (with_reducible exact graph_Path.mono _ _ _ _ _)
   | (with_reducible exact graph_Reach.mono _ _ _ _)
   | (with_reducible exact lambrequinlaw10_shown.mono _)
   | (with_reducible exact lambrequinref10_Clean.mono _ _ _)
   | (with_reducible exact lambrequinref10_Ints.mono _ _ _)
   | (with_reducible exact lambrequinref10_Lists.mono _ _ _)
   | (with_reducible exact lambrequinref10_Parts.mono _ _ _)
   | (with_reducible exact lambrequinref10_Path.mono _ _ _ _ _)
   | (with_reducible exact lambrequinref10_Reach.mono _ _ _ _)
   | (with_reducible exact LeO.refl _)
   | (with_reducible exact LeO.none _)
   | (with_reducible refine LeO.ite ?_ ?_)
   | (with_reducible refine LeO.bind ?_ (fun _ => ?_))
   | exact ih0 _ _ _ _ _ _
   | exact ih1 _ _ _ _ _ _ _ _
   | exact ih2 _ _ _ _ _ _ _ _
   | exact ih3 _ _ _ _ _ _ _ _
   | exact graph_Parts.mono _ _ _
   | exact graph_Path.mono _ _ _ _ _
   | exact graph_Reach.mono _ _ _ _
   | exact lambrequinlaw10_shown.mono _
   | exact lambrequinref10_Clean.mono _ _ _
   | exact lambrequinref10_Ints.mono _ _ _
   | exact lambrequinref10_Lists.mono _ _ _
   | exact lambrequinref10_Parts.mono _ _ _
   | exact lambrequinref10_Path.mono _ _ _ _ _
   | exact lambrequinref10_Reach.mono _ _ _ _
   | exact LeO.none _
   | refine LeO.ite ?_ ?_
   | refine LeO.bind ?_ (fun _ => ?_)
  ·intro y0 y1 y2 y3 y4 y5 y6 y7
   unfold lambrequinlaw10_GraphTells.j1
   repeat' first
   | (with_reducible exact ih0 _ _ _ _ _ _)
   | (with_reducible exact ih1 _ _ _ _ _ _ _ _)
   | (with_reducible exact ih2 _ _ _ _ _ _ _ _)
   | (with_reducible exact ih3 _ _ _ _ _ _ _ _)
   | (with_reducible exact graph_Parts.mono _ _ _)
   | (with_reducible exact graph_Path.mono _ _ _ _ _)
   | (with_reducible exact graph_Reach.mono _ _ _ _)
   | (with_reducible exact lambrequinlaw10_shown.mono _)
   | (with_reducible exact lambrequinref10_Clean.mono _ _ _)
   | (with_reducible exact lambrequinref10_Ints.mono _ _ _)
   | (with_reducible exact lambrequinref10_Lists.mono _ _ _)
   | (with_reducible exact lambrequinref10_Parts.mono _ _ _)
   | (with_reducible exact lambrequinref10_Path.mono _ _ _ _ _)
   | (with_reducible exact lambrequinref10_Reach.mono _ _ _ _)
   | (with_reducible exact LeO.refl _)
   | (with_reducible exact LeO.none _)
   | (with_reducible refine LeO.ite ?_ ?_)
   | (with_reducible refine LeO.bind ?_ (fun _ => ?_))
   | exact ih0 _ _ _ _ _ _
   | exact ih1 _ _ _ _ _ _ _ _
   | exact ih2 _ _ _ _ _ _ _ _
   | exact ih3 _ _ _ _ _ _ _ _
   | exact graph_Parts.mono _ _ _
   | exact graph_Path.mono _ _ _ _ _
   | exact graph_Reach.mono _ _ _ _
   | exact lambrequinlaw10_shown.mono _
   | exact lambrequinref10_Clean.mono _ _ _
   | exact lambrequinref10_Ints.mono _ _ _
   | exact lambrequinref10_Lists.mono _ _ _
   | exact lambrequinref10_Parts.mono _ _ _
   | exact lambrequinref10_Path.mono _ _ _ _ _
   | exact lambrequinref10_Reach.mono _ _ _ _
   | exact LeO.none _
   | refine LeO.ite ?_ ?_
   | refine LeO.bind ?_ (fun _ => ?_)
  ·intro y0 y1 y2 y3 y4 y5 y6 y7
   unfold lambrequinlaw10_GraphTells.l0
   repeat' first
   | (with_reducible exact ih0 _ _ _ _ _ _)
   | (with_reducible exact ih1 _ _ _ _ _ _ _ _)
   | (with_reducible exact ih2 _ _ _ _ _ _ _ _)
   | (with_reducible exact ih3 _ _ _ _ _ _ _ _)
   | (with_reducible exact graph_Parts.mono _ _ _)
   | (with_reducible exact graph_Path.mono _ _ _ _ _)
   | (with_reducible exact graph_Reach.mono _ _ _ _)
   | (with_reducible exact lambrequinlaw10_shown.mono _)
   | (with_reducible exact lambrequinref10_Clean.mono _ _ _)
   | (with_reducible exact lambrequinref10_Ints.mono _ _ _)
   | (with_reducible exact lambrequinref10_Lists.mono _ _ _)
   | (with_reducible exact lambrequinref10_Parts.mono _ _ _)
   | (with_reducible exact lambrequinref10_Path.mono _ _ _ _ _)
   | (with_reducible exact lambrequinref10_Reach.mono _ _ _ _)
   | (with_reducible exact LeO.refl _)
   | (with_reducible exact LeO.none _)
   | (with_reducible refine LeO.ite ?_ ?_)
   | (with_reducible refine LeO.bind ?_ (fun _ => ?_))
   | exact ih0 _ _ _ _ _ _
   | exact ih1 _ _ _ _ _ _ _ _
   | exact ih2 _ _ _ _ _ _ _ _
   | exact ih3 _ _ _ _ _ _ _ _
   | exact graph_Parts.mono _ _ _
   | exact graph_Path.mono _ _ _ _ _
   | exact graph_Reach.mono _ _ _ _
   | exact lambrequinlaw10_shown.mono _
   | exact lambrequinref10_Clean.mono _ _ _
   | exact lambrequinref10_Ints.mono _ _ _
   | exact lambrequinref10_Lists.mono _ _ _
   | exact lambrequinref10_Parts.mono _ _ _
   | exact lambrequinref10_Path.mono _ _ _ _ _
   | exact lambrequinref10_Reach.mono _ _ _ _
   | exact LeO.none _
   | refine LeO.ite ?_ ?_
   | refine LeO.bind ?_ (fun _ => ?_)
  ·intro y0 y1 y2 y3 y4 y5 y6 y7
   unfold lambrequinlaw10_GraphTells.l1
   repeat' first
   | (with_reducible exact ih0 _ _ _ _ _ _)
   | (with_reducible exact ih1 _ _ _ _ _ _ _ _)
   | (with_reducible exact ih2 _ _ _ _ _ _ _ _)
   | (with_reducible exact ih3 _ _ _ _ _ _ _ _)
   | (with_reducible exact graph_Parts.mono _ _ _)
   | (with_reducible exact graph_Path.mono _ _ _ _ _)
   | (with_reducible exact graph_Reach.mono _ _ _ _)
   | (with_reducible exact lambrequinlaw10_shown.mono _)
   | (with_reducible exact lambrequinref10_Clean.mono _ _ _)
   | (with_reducible exact lambrequinref10_Ints.mono _ _ _)
   | (with_reducible exact lambrequinref10_Lists.mono _ _ _)
   | (with_reducible exact lambrequinref10_Parts.mono _ _ _)
   | (with_reducible exact lambrequinref10_Path.mono _ _ _ _ _)
   | (with_reducible exact lambrequinref10_Reach.mono _ _ _ _)
   | (with_reducible exact LeO.refl _)
   | (with_reducible exact LeO.none _)
   | (with_reducible refine LeO.ite ?_ ?_)
   | (with_reducible refine LeO.bind ?_ (fun _ => ?_))
   | exact ih0 _ _ _ _ _ _
   | exact ih1 _ _ _ _ _ _ _ _
   | exact ih2 _ _ _ _ _ _ _ _
   | exact ih3 _ _ _ _ _ _ _ _
   | exact graph_Parts.mono _ _ _
   | exact graph_Path.mono _ _ _ _ _
   | exact graph_Reach.mono _ _ _ _
   | exact lambrequinlaw10_shown.mono _
   | exact lambrequinref10_Clean.mono _ _ _
   | exact lambrequinref10_Ints.mono _ _ _
   | exact lambrequinref10_Lists.mono _ _ _
   | exact lambrequinref10_Parts.mono _ _ _
   | exact lambrequinref10_Path.mono _ _ _ _ _
   | exact lambrequinref10_Reach.mono _ _ _ _
   | exact LeO.none _
   | refine LeO.ite ?_ ?_
   | refine LeO.bind ?_ (fun _ => ?_)
theorem lambrequinlaw10_GraphTells.mono : ∀ a0 a1 a2 a3 k, LeO (lambrequinlaw10_GraphTells.f k a0 a1 a2 a3) (lambrequinlaw10_GraphTells.f (k + 1) a0 a1 a2 a3) := by
 intro a0 a1 a2 a3 k
 obtain ⟨ih0, ih1, ih2, ih3⟩ := lambrequinlaw10_GraphTells.mono_l k
 unfold lambrequinlaw10_GraphTells.f
 repeat' first
   | (with_reducible exact ih0 _ _ _ _ _ _)
   | (with_reducible exact ih1 _ _ _ _ _ _ _ _)
   | (with_reducible exact ih2 _ _ _ _ _ _ _ _)
   | (with_reducible exact ih3 _ _ _ _ _ _ _ _)
   | (with_reducible exact graph_Parts.mono _ _ _)
   | (with_reducible exact graph_Path.mono _ _ _ _ _)
   | (with_reducible exact graph_Reach.mono _ _ _ _)
   | (with_reducible exact lambrequinlaw10_shown.mono _)
   | (with_reducible exact lambrequinref10_Clean.mono _ _ _)
   | (with_reducible exact lambrequinref10_Ints.mono _ _ _)
   | (with_reducible exact lambrequinref10_Lists.mono _ _ _)
   | (with_reducible exact lambrequinref10_Parts.mono _ _ _)
   | (with_reducible exact lambrequinref10_Path.mono _ _ _ _ _)
   | (with_reducible exact lambrequinref10_Reach.mono _ _ _ _)
   | (with_reducible exact LeO.refl _)
   | (with_reducible exact LeO.none _)
   | (with_reducible refine LeO.ite ?_ ?_)
   | (with_reducible refine LeO.bind ?_ (fun _ => ?_))
   | exact ih0 _ _ _ _ _ _
   | exact ih1 _ _ _ _ _ _ _ _
   | exact ih2 _ _ _ _ _ _ _ _
   | exact ih3 _ _ _ _ _ _ _ _
   | exact graph_Parts.mono _ _ _
   | exact graph_Path.mono _ _ _ _ _
   | exact graph_Reach.mono _ _ _ _
   | exact lambrequinlaw10_shown.mono _
   | exact lambrequinref10_Clean.mono _ _ _
   | exact lambrequinref10_Ints.mono _ _ _
   | exact lambrequinref10_Lists.mono _ _ _
   | exact lambrequinref10_Parts.mono _ _ _
   | exact lambrequinref10_Path.mono _ _ _ _ _
   | exact lambrequinref10_Reach.mono _ _ _ _
   | exact LeO.none _
   | refine LeO.ite ?_ ?_
   | refine LeO.bind ?_ (fun _ => ?_)
set_option maxHeartbeats 8000000 in
set_option maxRecDepth 100000 in
theorem lambrequinlaw10_GraphTells.calls (k : Nat) (a0 : Int) (A1 : Option Addr) (c1 : Nat) (l1 : List (IPair)) (a2 : Int) (a3 : Int) (r : Bool) (w : World) (hr1 : Kd.C k27 w A1 l1.length l1) (hc1 : l1.length ≤ c1) (h : lambrequinlaw10_GraphTells.f k a0 l1 a2 a3 = some r) :
  Calls Try.prog 4 #[.int .i64 a0, .slice A1 l1.length c1, .int .i64 a2, .int .i64 a3] w fun e w' => e = .returned (.bool r) ∧ Below w.heap.size w w' := by
 have hu27 := Try.underlying27
 have HR1 := am hr1
 have HC1 := am hc1
 clear hr1 hc1
 have HB := am (Below.refl w.heap.size w)
 have H : ((lambrequinlaw10_shown.f k).bind fun t101 => (if (l1.length : Int) > 200 then (lambrequinlaw10_GraphTells.j0 k a0 l1 a2 a3 t101 true) else (if a0 > 30 then (lambrequinlaw10_GraphTells.j0 k a0 l1 a2 a3 t101 (decide (a0 ≤ 1000))) else (lambrequinlaw10_GraphTells.j0 k a0 l1 a2 a3 t101 false)))) = some r := h
 clear h
 replace H := Option.bind_eq_some_iff.mp H
 obtain ⟨t101, A50, H⟩ := H
 replace H : (if (l1.length : Int) > 200 then (lambrequinlaw10_GraphTells.j0 k a0 l1 a2 a3 t101 true) else (if a0 > 30 then (lambrequinlaw10_GraphTells.j0 k a0 l1 a2 a3 t101 (decide (a0 ≤ 1000))) else (lambrequinlaw10_GraphTells.j0 k a0 l1 a2 a3 t101 false))) = some r := H
 have A5 := am A50
 clear A50
 have HC6 := am H
 clear H
 go_enter Try.func4, Try.ntmps4
 go_upto_region 2 with (first | (go_at_call 14; (with_reducible refine (lambrequinlaw10_shown.calls k  t101 _ A5.out).mono ?_); rintro e w7 ⟨rfl, hb⟩; replace HB := am (below_step (by repeat (first | (with_reducible first | exact HB.out | apply lA | apply lN | apply lD) | exact HB.out)) hb); (try clear hb); (try clear hb2); (try clear hk); (try clear hi)))
 repeat (go_quiet (first | (go_at_call 14; (with_reducible refine (lambrequinlaw10_shown.calls k  t101 _ A5.out).mono ?_); rintro e w7 ⟨rfl, hb⟩; replace HB := am (below_step (by repeat (first | (with_reducible first | exact HB.out | apply lA | apply lN | apply lD) | exact HB.out)) hb); (try clear hb); (try clear hb2); (try clear hk); (try clear hi))); go_upto_region 2 with (first | (go_at_call 14; (with_reducible refine (lambrequinlaw10_shown.calls k  t101 _ A5.out).mono ?_); rintro e w7 ⟨rfl, hb⟩; replace HB := am (below_step (by repeat (first | (with_reducible first | exact HB.out | apply lA | apply lN | apply lD) | exact HB.out)) hb); (try clear hb); (try clear hb2); (try clear hk); (try clear hi))))
 (try simp only [Act.put, List.setIfInBounds_toArray, List.set_cons_zero, List.set_cons_succ])
 go_cut [29] (fun v29 wc => ∃ (kq : Nat) (x29_5 : Bool), v29 = .bool x29_5 ∧ Aside0 (lambrequinlaw10_GraphTells.j0 kq a0 l1 a2 a3 t101 x29_5 = some r) ∧ Aside0 (kq ≤ k) ∧ Aside0 (Below w.heap.size w wc))
 case first =>
  have H := HC6.out
  clear HC6
  by_cases c8 : (l1.length : Int) > 200
  ·rw [if_pos c8] at H
   have c8b0 : decide (200 < (l1.length : Int)) = true := decide_eq_true c8
   have c8b1 : decide (200 < l1.length) = true := decide_eq_true (by omega)
   clear c8
   (first | rw [c8b0] | (simp only [i64_w, i32_w]; rw [c8b0]) | skip)
   have H' := am H
   clear H
   go_wp2
   repeat (go_quiet (fail); try go_wp2)
   go_meet
   case rel => exact ⟨_, (true), (by first | rfl | (simp; done) | (simp [*]; done)), H', ⟨by first | omega | exact Nat.le_refl _⟩, ⟨by repeat (first | (with_reducible first | exact HB.out | apply lA | apply lN | apply lD) | exact HB.out)⟩⟩
  ·rw [if_neg c8] at H
   have c8b0 : decide (200 < (l1.length : Int)) = false := decide_eq_false c8
   have c8b1 : decide (200 < l1.length) = false := decide_eq_false (by omega)
   clear c8
   (first | rw [c8b0] | (simp only [i64_w, i32_w]; rw [c8b0]) | skip)
   by_cases c9 : a0 > 30
   ·rw [if_pos c9] at H
    have c9b0 : decide (30 < a0) = true := decide_eq_true c9
    clear c9
    have H' := am H
    clear H
    go_wp2
    repeat (go_quiet (fail); try go_wp2)
    go_meet
    case rel => exact ⟨_, (decide (a0 ≤ 1000)), (by first | rfl | (simp; done) | (simp [*]; done)), H', ⟨by first | omega | exact Nat.le_refl _⟩, ⟨by repeat (first | (with_reducible first | exact HB.out | apply lA | apply lN | apply lD) | exact HB.out)⟩⟩
   ·rw [if_neg c9] at H
    have c9b0 : decide (30 < a0) = false := decide_eq_false c9
    clear c9
    have H' := am H
    clear H
    go_wp2
    repeat (go_quiet (fail); try go_wp2)
    go_meet
    case rel => exact ⟨_, (false), (by first | rfl | (simp; done) | (simp [*]; done)), H', ⟨by first | omega | exact Nat.le_refl _⟩, ⟨by repeat (first | (with_reducible first | exact HB.out | apply lA | apply lN | apply lD) | exact HB.out)⟩⟩
 case rest =>
  clear HC6
  try clear c1
  try clear p2
  try clear c4
  try clear c8
  try clear c8b0
  try clear c8b1
  try clear c9
  try clear c9b0
  obtain ⟨kq, x29_5, rfl, HA, HJ5, HB⟩ := hcut
  cases kq with
  | zero => exact absurd HA.out (by simp [lambrequinlaw10_GraphTells.j0])
  | succ kj5 =>
   have H := HA.out
   clear HA
   simp only [lambrequinlaw10_GraphTells.j0] at H
   by_cases c10 : x29_5 = true
   ·subst c10
    have H1 : (some t101) = some r := by rw [if_pos rfl] at H; exact H
    clear H
    have H := H1
    clear H1
    obtain rfl := Option.some.inj H
    go_wp2
    repeat (go_quiet (fail); try go_wp2)
    go_ret
    exact ⟨by first | rfl | (simp [errW_none, errW_some] <;> rfl) | (simp [*, errW_none, errW_some] <;> rfl), by repeat (first | (with_reducible first | exact HB.out | apply lA | apply lN | apply lD) | exact HB.out)⟩
   ·replace c10 := Bool.eq_false_iff.mpr c10
    subst c10
    have H1 : ((graph_Clean.f a0 l1).bind fun bt102 => ((lambrequinref10_Clean.f kj5 a0 l1).bind fun bt106 => (if bt102.2 = bt106.2 then (lambrequinlaw10_GraphTells.j1 kj5 a0 l1 a2 a3 t101 bt102.1 bt106.1 ((bt102.1.length : Int) != (bt106.1.length : Int))) else (lambrequinlaw10_GraphTells.j1 kj5 a0 l1 a2 a3 t101 bt102.1 bt106.1 true)))) = some r := by rw [if_neg (show ¬ (false = true) by decide)] at H; exact H
    clear H
    have H := H1
    clear H1
    replace H := Option.bind_eq_some_iff.mp H
    obtain ⟨⟨t102, t103⟩, A110, H⟩ := H
    replace H : ((lambrequinref10_Clean.f kj5 a0 l1).bind fun bt106 => (if t103 = bt106.2 then (lambrequinlaw10_GraphTells.j1 kj5 a0 l1 a2 a3 t101 t102 bt106.1 ((t102.length : Int) != (bt106.1.length : Int))) else (lambrequinlaw10_GraphTells.j1 kj5 a0 l1 a2 a3 t101 t102 bt106.1 true))) = some r := H
    have A11 := am A110
    clear A110
    replace H := Option.bind_eq_some_iff.mp H
    obtain ⟨⟨t106, t107⟩, A120, H⟩ := H
    replace H : (if t103 = t107 then (lambrequinlaw10_GraphTells.j1 kj5 a0 l1 a2 a3 t101 t102 t106 ((t102.length : Int) != (t106.length : Int))) else (lambrequinlaw10_GraphTells.j1 kj5 a0 l1 a2 a3 t101 t102 t106 true)) = some r := H
    have A12 := am A120
    clear A120
    have HC13 := am H
    clear H
    go_upto_region 6 with (first | (go_at_call 16; (with_reducible refine (graph_Clean.calls a0 _ _ l1 t102 t103 _ ?side1 ?side2 A11.out).mono ?_); (case side1 => repeat (first | exact (Kd.C_below HR1.out HB.out) | (with_reducible refine Kd.C_alloc ?_ _) | (with_reducible refine Kd.C_drewN ?_ _) | (with_reducible refine Kd.C_drew ?_))); (case side2 => exact HC1.out); rintro e w14 ⟨v104, rfl, ho0, hb⟩; have HO105 := am (Kd.R_lower ho0 (below_size (by repeat (first | (with_reducible first | exact HB.out | apply lA | apply lN | apply lD) | exact HB.out)))); replace HB := am (below_step (by repeat (first | (with_reducible first | exact HB.out | apply lA | apply lN | apply lD) | exact HB.out)) hb); (try clear hb); (try clear hb2); (try clear hk); (try clear hi); (try clear ho0)) | (go_at_call 21; (with_reducible refine (lambrequinref10_Clean.calls kj5 a0 _ _ l1 t106 t107 _ ?side1 ?side2 A12.out).mono ?_); (case side1 => repeat (first | exact (Kd.C_below HR1.out HB.out) | (with_reducible refine Kd.C_alloc ?_ _) | (with_reducible refine Kd.C_drewN ?_ _) | (with_reducible refine Kd.C_drew ?_))); (case side2 => exact HC1.out); rintro e w15 ⟨v108, rfl, ho0, hb⟩; have HO109 := am (Kd.R_lower (Kd.R_new' ho0 (Kd.R_lt (by (with_reducible repeat (first | apply Ra | apply Rn | apply Rd)); exact HO105.out))) (below_size (by repeat (first | (with_reducible first | exact HB.out | apply lA | apply lN | apply lD) | exact HB.out)))); replace HO105 := am (Kd.R_elder' (by (with_reducible repeat (first | apply Ra | apply Rn | apply Rd)); exact HO105.out) (Kd.R_base ho0) hb); replace HB := am (below_step (by repeat (first | (with_reducible first | exact HB.out | apply lA | apply lN | apply lD) | exact HB.out)) hb); (try clear hb); (try clear hb2); (try clear hk); (try clear hi); (try clear ho0)))
    repeat (go_quiet (first | (go_at_call 16; (with_reducible refine (graph_Clean.calls a0 _ _ l1 t102 t103 _ ?side1 ?side2 A11.out).mono ?_); (case side1 => repeat (first | exact (Kd.C_below HR1.out HB.out) | (with_reducible refine Kd.C_alloc ?_ _) | (with_reducible refine Kd.C_drewN ?_ _) | (with_reducible refine Kd.C_drew ?_))); (case side2 => exact HC1.out); rintro e w14 ⟨v104, rfl, ho0, hb⟩; have HO105 := am (Kd.R_lower ho0 (below_size (by repeat (first | (with_reducible first | exact HB.out | apply lA | apply lN | apply lD) | exact HB.out)))); replace HB := am (below_step (by repeat (first | (with_reducible first | exact HB.out | apply lA | apply lN | apply lD) | exact HB.out)) hb); (try clear hb); (try clear hb2); (try clear hk); (try clear hi); (try clear ho0)) | (go_at_call 21; (with_reducible refine (lambrequinref10_Clean.calls kj5 a0 _ _ l1 t106 t107 _ ?side1 ?side2 A12.out).mono ?_); (case side1 => repeat (first | exact (Kd.C_below HR1.out HB.out) | (with_reducible refine Kd.C_alloc ?_ _) | (with_reducible refine Kd.C_drewN ?_ _) | (with_reducible refine Kd.C_drew ?_))); (case side2 => exact HC1.out); rintro e w15 ⟨v108, rfl, ho0, hb⟩; have HO109 := am (Kd.R_lower (Kd.R_new' ho0 (Kd.R_lt (by (with_reducible repeat (first | apply Ra | apply Rn | apply Rd)); exact HO105.out))) (below_size (by repeat (first | (with_reducible first | exact HB.out | apply lA | apply lN | apply lD) | exact HB.out)))); replace HO105 := am (Kd.R_elder' (by (with_reducible repeat (first | apply Ra | apply Rn | apply Rd)); exact HO105.out) (Kd.R_base ho0) hb); replace HB := am (below_step (by repeat (first | (with_reducible first | exact HB.out | apply lA | apply lN | apply lD) | exact HB.out)) hb); (try clear hb); (try clear hb2); (try clear hk); (try clear hi); (try clear ho0))); go_upto_region 6 with (first | (go_at_call 16; (with_reducible refine (graph_Clean.calls a0 _ _ l1 t102 t103 _ ?side1 ?side2 A11.out).mono ?_); (case side1 => repeat (first | exact (Kd.C_below HR1.out HB.out) | (with_reducible refine Kd.C_alloc ?_ _) | (with_reducible refine Kd.C_drewN ?_ _) | (with_reducible refine Kd.C_drew ?_))); (case side2 => exact HC1.out); rintro e w14 ⟨v104, rfl, ho0, hb⟩; have HO105 := am (Kd.R_lower ho0 (below_size (by repeat (first | (with_reducible first | exact HB.out | apply lA | apply lN | apply lD) | exact HB.out)))); replace HB := am (below_step (by repeat (first | (with_reducible first | exact HB.out | apply lA | apply lN | apply lD) | exact HB.out)) hb); (try clear hb); (try clear hb2); (try clear hk); (try clear hi); (try clear ho0)) | (go_at_call 21; (with_reducible refine (lambrequinref10_Clean.calls kj5 a0 _ _ l1 t106 t107 _ ?side1 ?side2 A12.out).mono ?_); (case side1 => repeat (first | exact (Kd.C_below HR1.out HB.out) | (with_reducible refine Kd.C_alloc ?_ _) | (with_reducible refine Kd.C_drewN ?_ _) | (with_reducible refine Kd.C_drew ?_))); (case side2 => exact HC1.out); rintro e w15 ⟨v108, rfl, ho0, hb⟩; have HO109 := am (Kd.R_lower (Kd.R_new' ho0 (Kd.R_lt (by (with_reducible repeat (first | apply Ra | apply Rn | apply Rd)); exact HO105.out))) (below_size (by repeat (first | (with_reducible first | exact HB.out | apply lA | apply lN | apply lD) | exact HB.out)))); replace HO105 := am (Kd.R_elder' (by (with_reducible repeat (first | apply Ra | apply Rn | apply Rd)); exact HO105.out) (Kd.R_base ho0) hb); replace HB := am (below_step (by repeat (first | (with_reducible first | exact HB.out | apply lA | apply lN | apply lD) | exact HB.out)) hb); (try clear hb); (try clear hb2); (try clear hk); (try clear hi); (try clear ho0))))
    (try simp only [Act.put, List.setIfInBounds_toArray, List.set_cons_zero, List.set_cons_succ])
    go_cut [52] (fun v52 wc => ∃ (kq : Nat) (x52_12 : Bool), v52 = .bool x52_12 ∧ Aside0 (lambrequinlaw10_GraphTells.j1 kq a0 l1 a2 a3 t101 t102 t106 x52_12 = some r) ∧ Aside0 (kq ≤ kj5) ∧ Aside0 (Kd.R k27 27 wc w.heap.size (fun k_ => some k_ ≠ (v108 : Value).ownBlock) v104 t102) ∧ Aside0 (Kd.R k27 27 wc w.heap.size (fun k_ => some k_ ≠ (v104 : Value).ownBlock) v108 t106) ∧ Aside0 (Below w.heap.size w wc))
    case first =>
     have H := HC13.out
     clear HC13
     by_cases c16 : t103 = t107
     ·rw [if_pos c16] at H
      have c16b0 : (t103 == t107) = true := beq_iff_eq.mpr c16
      have c16b1 : (t103 != t107) = false := bne_eq_false_iff_eq.mpr c16
      clear c16
      (first | rw [c16b0] | (simp only [i64_w, i32_w]; rw [c16b0]) | skip)
      have H' := am H
      clear H
      obtain ⟨Ao17, co17, eo17⟩ := Kd.R_slice HO105.out
      subst eo17
      obtain ⟨Ao18, co18, eo18⟩ := Kd.R_slice HO109.out
      subst eo18
      go_wp2
      repeat (go_quiet (fail); try go_wp2)
      go_meet
      case rel => exact ⟨_, (((t102.length : Int) != (t106.length : Int))), (by first | rfl | (simp; done) | (simp [*]; done)), H', ⟨by have := HJ5.out; first | omega | exact Nat.le_refl _⟩, ⟨by (with_reducible repeat (first | apply Ra | apply Rn | apply Rd)); exact Kd.R_mono HO105.out (fun _ hk => hk.2)⟩, ⟨by (with_reducible repeat (first | apply Ra | apply Rn | apply Rd)); exact Kd.R_mono HO109.out (fun _ hk => hk.2)⟩, ⟨by repeat (first | (with_reducible first | exact HB.out | apply lA | apply lN | apply lD) | exact HB.out)⟩⟩
     ·rw [if_neg c16] at H
      have c16b0 : (t103 == t107) = false := beq_eq_false_iff_ne.mpr c16
      have c16b1 : (t103 != t107) = true := bne_iff_ne.mpr c16
      (first | rw [c16b0] | (simp only [i64_w, i32_w]; rw [c16b0]) | skip)
      have H' := am H
      clear H
      go_wp2
      repeat (go_quiet (fail); try go_wp2)
      go_meet
      case rel => exact ⟨_, (true), (by first | rfl | (simp; done) | (simp [*]; done)), H', ⟨by have := HJ5.out; first | omega | exact Nat.le_refl _⟩, ⟨by (with_reducible repeat (first | apply Ra | apply Rn | apply Rd)); exact Kd.R_mono HO105.out (fun _ hk => hk.2)⟩, ⟨by (with_reducible repeat (first | apply Ra | apply Rn | apply Rd)); exact Kd.R_mono HO109.out (fun _ hk => hk.2)⟩, ⟨by repeat (first | (with_reducible first | exact HB.out | apply lA | apply lN | apply lD) | exact HB.out)⟩⟩
    case rest =>
     clear HC13
     try clear c1
     try clear p2
     try clear c4
     try clear c8
     try clear c8b0
     try clear c8b1
     try clear c9
     try clear c9b0
     try clear c10
     try clear c16
     try clear c16b0
     try clear c16b1
     try clear p2
     obtain ⟨kq, x52_12, rfl, HA, HJ12, HO_10, HO_12, HB⟩ := hcut
     cases kq with
     | zero => exact absurd HA.out (by simp [lambrequinlaw10_GraphTells.j1])
     | succ kj12 =>
      have H := HA.out
      clear HA
      simp only [lambrequinlaw10_GraphTells.j1] at H
      by_cases c19 : x52_12 = true
      ·subst c19
       have H1 : (some false) = some r := by rw [if_pos rfl] at H; exact H
       clear H
       have H := H1
       clear H1
       obtain rfl := Option.some.inj H
       go_wp2
       repeat (go_quiet (fail); try go_wp2)
       go_ret
       exact ⟨by first | rfl | (simp [errW_none, errW_some] <;> rfl) | (simp [*, errW_none, errW_some] <;> rfl), by repeat (first | (with_reducible first | exact HB.out | apply lA | apply lN | apply lD) | exact HB.out)⟩
      ·replace c19 := Bool.eq_false_iff.mpr c19
       subst c19
       have H1 : (lambrequinlaw10_GraphTells.l0 kj12 a0 l1 a2 a3 t101 t102 t106 0) = some r := by rw [if_neg (show ¬ (false = true) by decide)] at H; exact H
       clear H
       have H := H1
       clear H1
       have H' := am H
       clear H
       go_wp2
       repeat (go_quiet (fail); try go_wp2)
       go_loopg [14] kj12 (fun kq v14 w' => ∃ (x14_3 : Int), v14 = .int .i64 x14_3 ∧ Aside0 (lambrequinlaw10_GraphTells.l0 kq a0 l1 a2 a3 t101 t102 t106 x14_3 = some r) ∧ Aside0 (kq ≤ kj12) ∧ Aside0 (Kd.R k27 27 w' w.heap.size (fun k_ => some k_ ≠ (v108 : Value).ownBlock) v104 t102) ∧ Aside0 (Kd.R k27 27 w' w.heap.size (fun k_ => some k_ ≠ (v104 : Value).ownBlock) v108 t106) ∧ Aside0 (Below w.heap.size w w'))
       case atStart => exact ⟨(0), (by first | rfl | (simp; done) | (simp [*]; done)), H', ⟨Nat.le_refl _⟩, ⟨by (with_reducible repeat (first | apply Ra | apply Rn | apply Rd)); exact HO_10.out⟩, ⟨by (with_reducible repeat (first | apply Ra | apply Rn | apply Rd)); exact HO_12.out⟩, ⟨by repeat (first | (with_reducible first | exact HB.out | apply lA | apply lN | apply lD) | exact HB.out)⟩⟩
       case round =>
        clear H'
        try clear c1
        try clear p2
        try clear c4
        try clear c8
        try clear c8b0
        try clear c8b1
        try clear c9
        try clear c9b0
        try clear c10
        try clear c16
        try clear c16b0
        try clear c16b1
        try clear c19
        try clear p2
        obtain ⟨x14_3, rfl, HA, HK3, HO_10, HO_12, HB⟩ := hrel
        cases gk with
        | zero => exact absurd HA.out (by simp [lambrequinlaw10_GraphTells.l0])
        | succ k3 =>
         have H := HA.out
         clear HA
         simp only [lambrequinlaw10_GraphTells.l0] at H
         by_cases c20 : x14_3 < (t102.length : Int)
         ·rw [if_pos c20] at H
          have c20b0 : decide (x14_3 < (t102.length : Int)) = true := decide_eq_true c20
          clear c20
          by_cases c21 : 0 ≤ x14_3
          ·rw [if_pos c21] at H
           have c21b0 : decide (0 ≤ x14_3) = true := decide_eq_true c21
           clear c21
           by_cases c22 : x14_3 < (t106.length : Int)
           ·rw [if_pos c22] at H
            have c22b0 : decide (x14_3 < (t106.length : Int)) = true := decide_eq_true c22
            clear c22
            by_cases c23 : (!(((rd_T27 t102 x14_3).fst) == ((rd_T27 t106 x14_3).fst)) || (!(((rd_T27 t102 x14_3).snd) == ((rd_T27 t106 x14_3).snd)))) = true
            ·rw [if_pos c23] at H
             have c23b0 : (!(((rd_T27 t102 x14_3).fst) == ((rd_T27 t106 x14_3).fst)) || (!(((rd_T27 t102 x14_3).snd) == ((rd_T27 t106 x14_3).snd)))) = true := c23
             clear c23
             obtain rfl := Option.some.inj H
             obtain ⟨Ao24, co24, eo24⟩ := Kd.R_slice HO_10.out
             subst eo24
             have p110 : 0 ≤ (x14_3 : Int) := of_decide_eq_true (by first | (with_reducible assumption) | assumption)
             have q110 : x14_3 < (t102.length : Int) := of_decide_eq_true (by first | (with_reducible assumption) | assumption)
             obtain ⟨ad110, e110, hx110_0, hx110_1⟩ := at_T27 (Kd.R_reads' HO_10.out).2.2 x14_3 p110 q110
             cases e110
             replace p110 := eq_true p110
             replace q110 := eq_true q110
             obtain ⟨Ao25, co25, eo25⟩ := Kd.R_slice HO_12.out
             subst eo25
             have p111 : 0 ≤ (x14_3 : Int) := of_decide_eq_true (by first | (with_reducible assumption) | assumption)
             have q111 : x14_3 < (t106.length : Int) := of_decide_eq_true (by first | (with_reducible assumption) | assumption)
             obtain ⟨ad111, e111, hx111_0, hx111_1⟩ := at_T27 (Kd.R_reads' HO_12.out).2.2 x14_3 p111 q111
             cases e111
             replace p111 := eq_true p111
             replace q111 := eq_true q111
             go_wp2
             repeat (go_quiet (fail); try go_wp2)
             go_ret
             exact ⟨by first | rfl | (simp [errW_none, errW_some] <;> rfl) | (simp [*, errW_none, errW_some] <;> rfl), by repeat (first | (with_reducible first | exact HB.out | apply lA | apply lN | apply lD) | exact HB.out)⟩
            ·rw [if_neg c23] at H
             have c23b0 : (!(((rd_T27 t102 x14_3).fst) == ((rd_T27 t106 x14_3).fst)) || (!(((rd_T27 t102 x14_3).snd) == ((rd_T27 t106 x14_3).snd)))) = false := by simpa using c23
             clear c23
             have H' := am H
             clear H
             obtain ⟨Ao26, co26, eo26⟩ := Kd.R_slice HO_10.out
             subst eo26
             have p110 : 0 ≤ (x14_3 : Int) := of_decide_eq_true (by first | (with_reducible assumption) | assumption)
             have q110 : x14_3 < (t102.length : Int) := of_decide_eq_true (by first | (with_reducible assumption) | assumption)
             obtain ⟨ad110, e110, hx110_0, hx110_1⟩ := at_T27 (Kd.R_reads' HO_10.out).2.2 x14_3 p110 q110
             cases e110
             replace p110 := eq_true p110
             replace q110 := eq_true q110
             obtain ⟨Ao27, co27, eo27⟩ := Kd.R_slice HO_12.out
             subst eo27
             have p111 : 0 ≤ (x14_3 : Int) := of_decide_eq_true (by first | (with_reducible assumption) | assumption)
             have q111 : x14_3 < (t106.length : Int) := of_decide_eq_true (by first | (with_reducible assumption) | assumption)
             obtain ⟨ad111, e111, hx111_0, hx111_1⟩ := at_T27 (Kd.R_reads' HO_12.out).2.2 x14_3 p111 q111
             cases e111
             replace p111 := eq_true p111
             replace q111 := eq_true q111
             go_wp2
             repeat (go_quiet (fail); try go_wp2)
             go_roundg k3
             case measure => have := HJ5.out; have := HJ12.out; have := HK3.out; omega
             case rel => exact ⟨(wrap64 (x14_3 + 1)), (by first | rfl | (simp; done) | (simp [*]; done)), H', ⟨by have := HJ5.out; have := HJ12.out; have := HK3.out; omega⟩, ⟨by (with_reducible repeat (first | apply Ra | apply Rn | apply Rd)); exact HO_10.out⟩, ⟨by (with_reducible repeat (first | apply Ra | apply Rn | apply Rd)); exact HO_12.out⟩, ⟨by repeat (first | (with_reducible first | exact HB.out | apply lA | apply lN | apply lD) | exact HB.out)⟩⟩
           ·rw [if_neg c22] at H
            exact absurd H (by simp)
          ·rw [if_neg c21] at H
           exact absurd H (by simp)
         ·rw [if_neg c20] at H
          have c20b0 : decide (x14_3 < (t102.length : Int)) = false := decide_eq_false c20
          clear c20
          replace H := Option.bind_eq_some_iff.mp H
          obtain ⟨t112, A280, H⟩ := H
          replace H : ((lambrequinref10_Reach.f k3 a0 l1 a2).bind fun t115 => (if (t112.length : Int) = (t115.length : Int) then (lambrequinlaw10_GraphTells.l1 k3 a0 l1 a2 a3 t101 t112 t115 0) else (some false))) = some r := H
          have A28 := am A280
          clear A280
          replace H := Option.bind_eq_some_iff.mp H
          obtain ⟨t115, A290, H⟩ := H
          replace H : (if (t112.length : Int) = (t115.length : Int) then (lambrequinlaw10_GraphTells.l1 k3 a0 l1 a2 a3 t101 t112 t115 0) else (some false)) = some r := H
          have A29 := am A290
          clear A290
          by_cases c30 : (t112.length : Int) = (t115.length : Int)
          ·rw [if_pos c30] at H
           have c30b0 : ((t112.length : Int) == (t115.length : Int)) = true := beq_iff_eq.mpr c30
           have c30b1 : ((t112.length : Int) != (t115.length : Int)) = false := bne_eq_false_iff_eq.mpr c30
           have c30b2 : (t112.length == t115.length) = true := by first | simpa using c30 | (simp at c30 ⊢; omega)
           clear c30
           have H' := am H
           clear H
           obtain ⟨Ao31, co31, eo31⟩ := Kd.R_slice HO_10.out
           subst eo31
           go_wp2_with (first | (go_at_call 22; (with_reducible refine (graph_Reach.calls k3 a0 _ _ l1 a2 t112 _ ?side1 ?side2 A28.out).mono ?_); (case side1 => repeat (first | exact (Kd.C_below HR1.out HB.out) | (with_reducible refine Kd.C_alloc ?_ _) | (with_reducible refine Kd.C_drewN ?_ _) | (with_reducible refine Kd.C_drew ?_))); (case side2 => exact HC1.out); rintro e w32 ⟨v113, rfl, ho0, hb⟩; replace HO_10 := am (Kd.R_below (by (with_reducible repeat (first | apply Ra | apply Rn | apply Rd)); exact HO_10.out) hb); replace HO_12 := am (Kd.R_below (by (with_reducible repeat (first | apply Ra | apply Rn | apply Rd)); exact HO_12.out) hb); have HO114 := am (Kd.R_lower ho0 (below_size (by repeat (first | (with_reducible first | exact HB.out | apply lA | apply lN | apply lD) | exact HB.out)))); replace HB := am (below_step (by repeat (first | (with_reducible first | exact HB.out | apply lA | apply lN | apply lD) | exact HB.out)) hb); (try clear hb); (try clear hb2); (try clear hk); (try clear hi); (try clear ho0)) | (go_at_call 23; (with_reducible refine (lambrequinref10_Reach.calls k3 a0 _ _ l1 a2 t115 _ ?side1 ?side2 A29.out).mono ?_); (case side1 => repeat (first | exact (Kd.C_below HR1.out HB.out) | (with_reducible refine Kd.C_alloc ?_ _) | (with_reducible refine Kd.C_drewN ?_ _) | (with_reducible refine Kd.C_drew ?_))); (case side2 => exact HC1.out); rintro e w33 ⟨v116, rfl, ho0, hb⟩; replace HO_10 := am (Kd.R_below (by (with_reducible repeat (first | apply Ra | apply Rn | apply Rd)); exact HO_10.out) hb); replace HO_12 := am (Kd.R_below (by (with_reducible repeat (first | apply Ra | apply Rn | apply Rd)); exact HO_12.out) hb); have HO117 := am (Kd.R_lower (Kd.R_new' ho0 (Kd.R_lt (by (with_reducible repeat (first | apply Ra | apply Rn | apply Rd)); exact HO114.out))) (below_size (by repeat (first | (with_reducible first | exact HB.out | apply lA | apply lN | apply lD) | exact HB.out)))); replace HO114 := am (Kd.R_elder' (by (with_reducible repeat (first | apply Ra | apply Rn | apply Rd)); exact HO114.out) (Kd.R_base ho0) hb); replace HB := am (below_step (by repeat (first | (with_reducible first | exact HB.out | apply lA | apply lN | apply lD) | exact HB.out)) hb); (try clear hb); (try clear hb2); (try clear hk); (try clear hi); (try clear ho0); obtain ⟨Ao34, co34, eo34⟩ := Kd.R_slice HO114.out; subst eo34; obtain ⟨Ao35, co35, eo35⟩ := Kd.R_slice HO117.out; subst eo35))
           repeat (go_quiet (first | (go_at_call 22; (with_reducible refine (graph_Reach.calls k3 a0 _ _ l1 a2 t112 _ ?side1 ?side2 A28.out).mono ?_); (case side1 => repeat (first | exact (Kd.C_below HR1.out HB.out) | (with_reducible refine Kd.C_alloc ?_ _) | (with_reducible refine Kd.C_drewN ?_ _) | (with_reducible refine Kd.C_drew ?_))); (case side2 => exact HC1.out); rintro e w32 ⟨v113, rfl, ho0, hb⟩; replace HO_10 := am (Kd.R_below (by (with_reducible repeat (first | apply Ra | apply Rn | apply Rd)); exact HO_10.out) hb); replace HO_12 := am (Kd.R_below (by (with_reducible repeat (first | apply Ra | apply Rn | apply Rd)); exact HO_12.out) hb); have HO114 := am (Kd.R_lower ho0 (below_size (by repeat (first | (with_reducible first | exact HB.out | apply lA | apply lN | apply lD) | exact HB.out)))); replace HB := am (below_step (by repeat (first | (with_reducible first | exact HB.out | apply lA | apply lN | apply lD) | exact HB.out)) hb); (try clear hb); (try clear hb2); (try clear hk); (try clear hi); (try clear ho0)) | (go_at_call 23; (with_reducible refine (lambrequinref10_Reach.calls k3 a0 _ _ l1 a2 t115 _ ?side1 ?side2 A29.out).mono ?_); (case side1 => repeat (first | exact (Kd.C_below HR1.out HB.out) | (with_reducible refine Kd.C_alloc ?_ _) | (with_reducible refine Kd.C_drewN ?_ _) | (with_reducible refine Kd.C_drew ?_))); (case side2 => exact HC1.out); rintro e w33 ⟨v116, rfl, ho0, hb⟩; replace HO_10 := am (Kd.R_below (by (with_reducible repeat (first | apply Ra | apply Rn | apply Rd)); exact HO_10.out) hb); replace HO_12 := am (Kd.R_below (by (with_reducible repeat (first | apply Ra | apply Rn | apply Rd)); exact HO_12.out) hb); have HO117 := am (Kd.R_lower (Kd.R_new' ho0 (Kd.R_lt (by (with_reducible repeat (first | apply Ra | apply Rn | apply Rd)); exact HO114.out))) (below_size (by repeat (first | (with_reducible first | exact HB.out | apply lA | apply lN | apply lD) | exact HB.out)))); replace HO114 := am (Kd.R_elder' (by (with_reducible repeat (first | apply Ra | apply Rn | apply Rd)); exact HO114.out) (Kd.R_base ho0) hb); replace HB := am (below_step (by repeat (first | (with_reducible first | exact HB.out | apply lA | apply lN | apply lD) | exact HB.out)) hb); (try clear hb); (try clear hb2); (try clear hk); (try clear hi); (try clear ho0); obtain ⟨Ao34, co34, eo34⟩ := Kd.R_slice HO114.out; subst eo34; obtain ⟨Ao35, co35, eo35⟩ := Kd.R_slice HO117.out; subst eo35)); try go_wp2_with (first | (go_at_call 22; (with_reducible refine (graph_Reach.calls k3 a0 _ _ l1 a2 t112 _ ?side1 ?side2 A28.out).mono ?_); (case side1 => repeat (first | exact (Kd.C_below HR1.out HB.out) | (with_reducible refine Kd.C_alloc ?_ _) | (with_reducible refine Kd.C_drewN ?_ _) | (with_reducible refine Kd.C_drew ?_))); (case side2 => exact HC1.out); rintro e w32 ⟨v113, rfl, ho0, hb⟩; replace HO_10 := am (Kd.R_below (by (with_reducible repeat (first | apply Ra | apply Rn | apply Rd)); exact HO_10.out) hb); replace HO_12 := am (Kd.R_below (by (with_reducible repeat (first | apply Ra | apply Rn | apply Rd)); exact HO_12.out) hb); have HO114 := am (Kd.R_lower ho0 (below_size (by repeat (first | (with_reducible first | exact HB.out | apply lA | apply lN | apply lD) | exact HB.out)))); replace HB := am (below_step (by repeat (first | (with_reducible first | exact HB.out | apply lA | apply lN | apply lD) | exact HB.out)) hb); (try clear hb); (try clear hb2); (try clear hk); (try clear hi); (try clear ho0)) | (go_at_call 23; (with_reducible refine (lambrequinref10_Reach.calls k3 a0 _ _ l1 a2 t115 _ ?side1 ?side2 A29.out).mono ?_); (case side1 => repeat (first | exact (Kd.C_below HR1.out HB.out) | (with_reducible refine Kd.C_alloc ?_ _) | (with_reducible refine Kd.C_drewN ?_ _) | (with_reducible refine Kd.C_drew ?_))); (case side2 => exact HC1.out); rintro e w33 ⟨v116, rfl, ho0, hb⟩; replace HO_10 := am (Kd.R_below (by (with_reducible repeat (first | apply Ra | apply Rn | apply Rd)); exact HO_10.out) hb); replace HO_12 := am (Kd.R_below (by (with_reducible repeat (first | apply Ra | apply Rn | apply Rd)); exact HO_12.out) hb); have HO117 := am (Kd.R_lower (Kd.R_new' ho0 (Kd.R_lt (by (with_reducible repeat (first | apply Ra | apply Rn | apply Rd)); exact HO114.out))) (below_size (by repeat (first | (with_reducible first | exact HB.out | apply lA | apply lN | apply lD) | exact HB.out)))); replace HO114 := am (Kd.R_elder' (by (with_reducible repeat (first | apply Ra | apply Rn | apply Rd)); exact HO114.out) (Kd.R_base ho0) hb); replace HB := am (below_step (by repeat (first | (with_reducible first | exact HB.out | apply lA | apply lN | apply lD) | exact HB.out)) hb); (try clear hb); (try clear hb2); (try clear hk); (try clear hi); (try clear ho0); obtain ⟨Ao34, co34, eo34⟩ := Kd.R_slice HO114.out; subst eo34; obtain ⟨Ao35, co35, eo35⟩ := Kd.R_slice HO117.out; subst eo35)))
           go_loopg [17] k3 (fun kq v17 w' => ∃ (x17_4 : Int), v17 = .int .i64 x17_4 ∧ Aside0 (lambrequinlaw10_GraphTells.l1 kq a0 l1 a2 a3 t101 t112 t115 x17_4 = some r) ∧ Aside0 (kq ≤ k3) ∧ Aside0 (Kd.R Kd.bool 4 w' w.heap.size (fun k_ => some k_ ≠ ((.slice Ao35 t115.length co35) : Value).ownBlock) (.slice Ao34 t112.length co34) t112) ∧ Aside0 (Kd.R Kd.bool 4 w' w.heap.size (fun k_ => some k_ ≠ ((.slice Ao34 t112.length co34) : Value).ownBlock) (.slice Ao35 t115.length co35) t115) ∧ Aside0 (Below w.heap.size w w'))
           case atStart => exact ⟨(0), (by first | rfl | (simp; done) | (simp [*]; done)), H', ⟨Nat.le_refl _⟩, ⟨by (with_reducible repeat (first | apply Ra | apply Rn | apply Rd)); exact Kd.R_mono HO114.out (fun _ hk => hk.2)⟩, ⟨by (with_reducible repeat (first | apply Ra | apply Rn | apply Rd)); exact Kd.R_mono HO117.out (fun _ hk => hk.2)⟩, ⟨by repeat (first | (with_reducible first | exact HB.out | apply lA | apply lN | apply lD) | exact HB.out)⟩⟩
           case round =>
            clear H'
            try clear c1
            try clear p1
            try clear q1
            try clear hx1
            try clear c2
            try clear p2
            try clear c3
            try clear c4
            try clear p6
            try clear c8
            try clear c8b0
            try clear c8b1
            try clear c9
            try clear c9b0
            try clear c10
            try clear p11
            try clear q11
            try clear hx11
            try clear c16
            try clear c16b0
            try clear c16b1
            try clear c19
            try clear c20
            try clear c20b0
            try clear c21
            try clear c21b0
            try clear c22
            try clear c22b0
            try clear c23
            try clear c23b0
            try clear c30
            try clear c30b0
            try clear c30b1
            try clear c30b2
            try clear hx110_0
            try clear hx110_1
            try clear hx111_0
            try clear hx111_1
            try clear p110
            try clear p111
            try clear p2
            try clear q110
            try clear q111
            obtain ⟨x17_4, rfl, HA, HK4, HO_15, HO_16, HB⟩ := hrel
            cases gk with
            | zero => exact absurd HA.out (by simp [lambrequinlaw10_GraphTells.l1])
            | succ k4 =>
             have H := HA.out
             clear HA
             simp only [lambrequinlaw10_GraphTells.l1] at H
             by_cases c36 : x17_4 < (t112.length : Int)
             ·rw [if_pos c36] at H
              have c36b0 : decide (x17_4 < (t112.length : Int)) = true := decide_eq_true c36
              clear c36
              by_cases c37 : 0 ≤ x17_4
              ·rw [if_pos c37] at H
               have c37b0 : decide (0 ≤ x17_4) = true := decide_eq_true c37
               clear c37
               by_cases c38 : x17_4 < (t115.length : Int)
               ·rw [if_pos c38] at H
                have c38b0 : decide (x17_4 < (t115.length : Int)) = true := decide_eq_true c38
                clear c38
                by_cases c39 : ((rdOf false t112 x17_4) != (rdOf false t115 x17_4)) = true
                ·rw [if_pos c39] at H
                 have c39b0 : ((rdOf false t112 x17_4) != (rdOf false t115 x17_4)) = true := c39
                 (try (have c39b1 : decide ((rdOf false t112 x17_4) = (rdOf false t115 x17_4)) = false := by simpa using c39))
                 (try (have c39b2 : ((rdOf false t112 x17_4) == (rdOf false t115 x17_4)) = false := by simpa using c39))
                 (try (have c39b3 : ¬ ((rdOf false t112 x17_4) = (rdOf false t115 x17_4)) := by simpa using c39))
                 clear c39
                 obtain rfl := Option.some.inj H
                 have p118 : 0 ≤ (x17_4 : Int) := of_decide_eq_true (by first | (with_reducible assumption) | assumption)
                 have q118 : x17_4 < (t112.length : Int) := of_decide_eq_true (by first | (with_reducible assumption) | assumption)
                 obtain ⟨ad118, e118, hx118_0⟩ := Kd.at_bool (Kd.R_reads' HO_15.out).2.2 x17_4 p118 q118
                 cases e118
                 replace p118 := eq_true p118
                 replace q118 := eq_true q118
                 have p119 : 0 ≤ (x17_4 : Int) := of_decide_eq_true (by first | (with_reducible assumption) | assumption)
                 have q119 : x17_4 < (t115.length : Int) := of_decide_eq_true (by first | (with_reducible assumption) | assumption)
                 obtain ⟨ad119, e119, hx119_0⟩ := Kd.at_bool (Kd.R_reads' HO_16.out).2.2 x17_4 p119 q119
                 cases e119
                 replace p119 := eq_true p119
                 replace q119 := eq_true q119
                 go_wp2
                 repeat (go_quiet (fail); try go_wp2)
                 go_ret
                 exact ⟨by first | rfl | (simp [errW_none, errW_some] <;> rfl) | (simp [*, errW_none, errW_some] <;> rfl), by repeat (first | (with_reducible first | exact HB.out | apply lA | apply lN | apply lD) | exact HB.out)⟩
                ·rw [if_neg c39] at H
                 have c39b0 : ((rdOf false t112 x17_4) != (rdOf false t115 x17_4)) = false := by simpa using c39
                 (try (have c39b1 : decide ((rdOf false t112 x17_4) = (rdOf false t115 x17_4)) = true := by simpa using c39))
                 (try (have c39b2 : ((rdOf false t112 x17_4) == (rdOf false t115 x17_4)) = true := by simpa using c39))
                 clear c39
                 have H' := am H
                 clear H
                 have p118 : 0 ≤ (x17_4 : Int) := of_decide_eq_true (by first | (with_reducible assumption) | assumption)
                 have q118 : x17_4 < (t112.length : Int) := of_decide_eq_true (by first | (with_reducible assumption) | assumption)
                 obtain ⟨ad118, e118, hx118_0⟩ := Kd.at_bool (Kd.R_reads' HO_15.out).2.2 x17_4 p118 q118
                 cases e118
                 replace p118 := eq_true p118
                 replace q118 := eq_true q118
                 have p119 : 0 ≤ (x17_4 : Int) := of_decide_eq_true (by first | (with_reducible assumption) | assumption)
                 have q119 : x17_4 < (t115.length : Int) := of_decide_eq_true (by first | (with_reducible assumption) | assumption)
                 obtain ⟨ad119, e119, hx119_0⟩ := Kd.at_bool (Kd.R_reads' HO_16.out).2.2 x17_4 p119 q119
                 cases e119
                 replace p119 := eq_true p119
                 replace q119 := eq_true q119
                 go_wp2
                 repeat (go_quiet (fail); try go_wp2)
                 go_roundg k4
                 case measure => have := HJ5.out; have := HJ12.out; have := HK3.out; have := HK4.out; omega
                 case rel => exact ⟨(wrap64 (x17_4 + 1)), (by first | rfl | (simp; done) | (simp [*]; done)), H', ⟨by have := HJ5.out; have := HJ12.out; have := HK3.out; have := HK4.out; omega⟩, ⟨by (with_reducible repeat (first | apply Ra | apply Rn | apply Rd)); exact HO_15.out⟩, ⟨by (with_reducible repeat (first | apply Ra | apply Rn | apply Rd)); exact HO_16.out⟩, ⟨by repeat (first | (with_reducible first | exact HB.out | apply lA | apply lN | apply lD) | exact HB.out)⟩⟩
               ·rw [if_neg c38] at H
                exact absurd H (by simp)
              ·rw [if_neg c37] at H
               exact absurd H (by simp)
             ·rw [if_neg c36] at H
              have c36b0 : decide (x17_4 < (t112.length : Int)) = false := decide_eq_false c36
              clear c36
              by_cases c40 : t101 = true
              ·subst c40
               have H1 : ((graph_Parts.f k4 a0 l1).bind fun t120 => ((lambrequinref10_Parts.f k4 a0 l1).bind fun t123 => ((lambrequinref10_Lists.f k4 t120 t123).bind fun t126 => (if t126 = true then ((graph_Path.f k4 a0 l1 a2 a3).bind fun t127 => ((lambrequinref10_Path.f k4 a0 l1 a2 a3).bind fun t130 => ((lambrequinref10_Ints.f k4 t127 t130).bind fun t133 => (some t133)))) else (some false))))) = some r := by rw [if_pos rfl] at H; exact H
               clear H
               have H := H1
               clear H1
               replace H := Option.bind_eq_some_iff.mp H
               obtain ⟨t120, A410, H⟩ := H
               replace H : ((lambrequinref10_Parts.f k4 a0 l1).bind fun t123 => ((lambrequinref10_Lists.f k4 t120 t123).bind fun t126 => (if t126 = true then ((graph_Path.f k4 a0 l1 a2 a3).bind fun t127 => ((lambrequinref10_Path.f k4 a0 l1 a2 a3).bind fun t130 => ((lambrequinref10_Ints.f k4 t127 t130).bind fun t133 => (some t133)))) else (some false)))) = some r := H
               have A41 := am A410
               clear A410
               replace H := Option.bind_eq_some_iff.mp H
               obtain ⟨t123, A420, H⟩ := H
               replace H : ((lambrequinref10_Lists.f k4 t120 t123).bind fun t126 => (if t126 = true then ((graph_Path.f k4 a0 l1 a2 a3).bind fun t127 => ((lambrequinref10_Path.f k4 a0 l1 a2 a3).bind fun t130 => ((lambrequinref10_Ints.f k4 t127 t130).bind fun t133 => (some t133)))) else (some false))) = some r := H
               have A42 := am A420
               clear A420
               replace H := Option.bind_eq_some_iff.mp H
               obtain ⟨t126, A430, H⟩ := H
               replace H : (if t126 = true then ((graph_Path.f k4 a0 l1 a2 a3).bind fun t127 => ((lambrequinref10_Path.f k4 a0 l1 a2 a3).bind fun t130 => ((lambrequinref10_Ints.f k4 t127 t130).bind fun t133 => (some t133)))) else (some false)) = some r := H
               have A43 := am A430
               clear A430
               by_cases c44 : t126 = true
               ·subst c44
                have H1 : ((graph_Path.f k4 a0 l1 a2 a3).bind fun t127 => ((lambrequinref10_Path.f k4 a0 l1 a2 a3).bind fun t130 => ((lambrequinref10_Ints.f k4 t127 t130).bind fun t133 => (some t133)))) = some r := by rw [if_pos rfl] at H; exact H
                clear H
                have H := H1
                clear H1
                replace H := Option.bind_eq_some_iff.mp H
                obtain ⟨t127, A450, H⟩ := H
                replace H : ((lambrequinref10_Path.f k4 a0 l1 a2 a3).bind fun t130 => ((lambrequinref10_Ints.f k4 t127 t130).bind fun t133 => (some t133))) = some r := H
                have A45 := am A450
                clear A450
                replace H := Option.bind_eq_some_iff.mp H
                obtain ⟨t130, A460, H⟩ := H
                replace H : ((lambrequinref10_Ints.f k4 t127 t130).bind fun t133 => (some t133)) = some r := H
                have A46 := am A460
                clear A460
                replace H := Option.bind_eq_some_iff.mp H
                obtain ⟨t133, A470, H⟩ := H
                replace H : (some t133) = some r := H
                have A47 := am A470
                clear A470
                obtain rfl := Option.some.inj H
                go_wp2_with (first | (go_at_call 18; (with_reducible refine (graph_Parts.calls k4 a0 _ _ l1 t120 _ ?side1 ?side2 A41.out).mono ?_); (case side1 => repeat (first | exact (Kd.C_below HR1.out HB.out) | (with_reducible refine Kd.C_alloc ?_ _) | (with_reducible refine Kd.C_drewN ?_ _) | (with_reducible refine Kd.C_drew ?_))); (case side2 => exact HC1.out); rintro e w48 ⟨v121, rfl, ho0, hb⟩; replace HO_15 := am (Kd.R_below (by (with_reducible repeat (first | apply Ra | apply Rn | apply Rd)); exact HO_15.out) hb); replace HO_16 := am (Kd.R_below (by (with_reducible repeat (first | apply Ra | apply Rn | apply Rd)); exact HO_16.out) hb); have HO122 := am (Kd.S_lower ho0 (below_size (by repeat (first | (with_reducible first | exact HB.out | apply lA | apply lN | apply lD) | exact HB.out)))); replace HB := am (below_step (by repeat (first | (with_reducible first | exact HB.out | apply lA | apply lN | apply lD) | exact HB.out)) hb); (try clear hb); (try clear hb2); (try clear hk); (try clear hi); (try clear ho0)) | (go_at_call 24; (with_reducible refine (lambrequinref10_Parts.calls k4 a0 _ _ l1 t123 _ ?side1 ?side2 A42.out).mono ?_); (case side1 => repeat (first | exact (Kd.C_below HR1.out HB.out) | (with_reducible refine Kd.C_alloc ?_ _) | (with_reducible refine Kd.C_drewN ?_ _) | (with_reducible refine Kd.C_drew ?_))); (case side2 => exact HC1.out); rintro e w49 ⟨v124, rfl, ho0, hb⟩; replace HO_15 := am (Kd.R_below (by (with_reducible repeat (first | apply Ra | apply Rn | apply Rd)); exact HO_15.out) hb); replace HO_16 := am (Kd.R_below (by (with_reducible repeat (first | apply Ra | apply Rn | apply Rd)); exact HO_16.out) hb); have HO125 := am (Kd.S_lower (Kd.S_new' ho0 (Kd.S_lt (by (with_reducible repeat (first | apply Kd.S_alloc | apply Kd.S_drewN | apply Kd.S_drew)); exact HO122.out))) (below_size (by repeat (first | (with_reducible first | exact HB.out | apply lA | apply lN | apply lD) | exact HB.out)))); replace HO122 := am (Kd.S_elder' (by (with_reducible repeat (first | apply Kd.S_alloc | apply Kd.S_drewN | apply Kd.S_drew)); exact HO122.out) (Kd.S_base ho0) hb); replace HB := am (below_step (by repeat (first | (with_reducible first | exact HB.out | apply lA | apply lN | apply lD) | exact HB.out)) hb); (try clear hb); (try clear hb2); (try clear hk); (try clear hi); (try clear ho0); obtain ⟨Ao50, co50, eo50⟩ := Kd.S_slice HO122.out; subst eo50; obtain ⟨Ao51, co51, eo51⟩ := Kd.S_slice HO125.out; subst eo51) | (go_at_call 17; (with_reducible refine (lambrequinref10_Lists.calls k4 _ _ t120 _ _ t123 true _ ?side1 ?side2 ?side3 ?side4 A43.out).mono ?_); (case side1 => repeat (first | exact (Kd.S_reads' HO122.out).2.2 | (with_reducible refine Kd.C_alloc ?_ _) | (with_reducible refine Kd.C_drewN ?_ _) | (with_reducible refine Kd.C_drew ?_))); (case side2 => exact (Kd.S_reads' HO122.out).2.1); (case side3 => repeat (first | exact (Kd.S_reads' HO125.out).2.2 | (with_reducible refine Kd.C_alloc ?_ _) | (with_reducible refine Kd.C_drewN ?_ _) | (with_reducible refine Kd.C_drew ?_))); (case side4 => exact (Kd.S_reads' HO125.out).2.1); rintro e w' ⟨rfl, ⟨nd, rfl⟩⟩; (try first | exact ⟨rfl, _, World.drewN_drewN _ _ _⟩ | exact ⟨rfl, _, Eq.trans (World.drewN_drewN _ _ _) (congrArg (World.drewN _) (Nat.add_assoc _ _ _))⟩)) | (go_at_call 20; (with_reducible refine (graph_Path.calls k4 a0 _ _ l1 a2 a3 t127 _ ?side1 ?side2 A45.out).mono ?_); (case side1 => repeat (first | exact (Kd.C_below HR1.out (by repeat (first | (with_reducible first | exact HB.out | apply lA | apply lN | apply lD) | exact HB.out))) | (with_reducible refine Kd.C_alloc ?_ _) | (with_reducible refine Kd.C_drewN ?_ _) | (with_reducible refine Kd.C_drew ?_))); (case side2 => exact HC1.out); rintro e w52 ⟨v128, rfl, ho0, hb⟩; replace HO_15 := am (Kd.R_below (by (with_reducible repeat (first | apply Ra | apply Rn | apply Rd)); exact HO_15.out) hb); replace HO_16 := am (Kd.R_below (by (with_reducible repeat (first | apply Ra | apply Rn | apply Rd)); exact HO_16.out) hb); replace HO122 := am (Kd.S_elder' (by (with_reducible repeat (first | apply Kd.S_alloc | apply Kd.S_drewN | apply Kd.S_drew)); exact HO122.out) (Kd.R_base ho0) hb); replace HO125 := am (Kd.S_elder' (by (with_reducible repeat (first | apply Kd.S_alloc | apply Kd.S_drewN | apply Kd.S_drew)); exact HO125.out) (Kd.R_base ho0) hb); have HO129 := am (Kd.R_lower ho0 (below_size (by repeat (first | (with_reducible first | exact HB.out | apply lA | apply lN | apply lD) | exact HB.out)))); replace HB := am (below_step (by repeat (first | (with_reducible first | exact HB.out | apply lA | apply lN | apply lD) | exact HB.out)) hb); (try clear hb); (try clear hb2); (try clear hk); (try clear hi); (try clear ho0)) | (go_at_call 25; (with_reducible refine (lambrequinref10_Path.calls k4 a0 _ _ l1 a2 a3 t130 _ ?side1 ?side2 A46.out).mono ?_); (case side1 => repeat (first | exact (Kd.C_below HR1.out HB.out) | (with_reducible refine Kd.C_alloc ?_ _) | (with_reducible refine Kd.C_drewN ?_ _) | (with_reducible refine Kd.C_drew ?_))); (case side2 => exact HC1.out); rintro e w53 ⟨v131, rfl, ho0, hb⟩; replace HO_15 := am (Kd.R_below (by (with_reducible repeat (first | apply Ra | apply Rn | apply Rd)); exact HO_15.out) hb); replace HO_16 := am (Kd.R_below (by (with_reducible repeat (first | apply Ra | apply Rn | apply Rd)); exact HO_16.out) hb); replace HO122 := am (Kd.S_elder' (by (with_reducible repeat (first | apply Kd.S_alloc | apply Kd.S_drewN | apply Kd.S_drew)); exact HO122.out) (Kd.R_base ho0) hb); replace HO125 := am (Kd.S_elder' (by (with_reducible repeat (first | apply Kd.S_alloc | apply Kd.S_drewN | apply Kd.S_drew)); exact HO125.out) (Kd.R_base ho0) hb); have HO132 := am (Kd.R_lower (Kd.R_new' ho0 (Kd.R_lt (by (with_reducible repeat (first | apply Ra | apply Rn | apply Rd)); exact HO129.out))) (below_size (by repeat (first | (with_reducible first | exact HB.out | apply lA | apply lN | apply lD) | exact HB.out)))); replace HO129 := am (Kd.R_elder' (by (with_reducible repeat (first | apply Ra | apply Rn | apply Rd)); exact HO129.out) (Kd.R_base ho0) hb); replace HB := am (below_step (by repeat (first | (with_reducible first | exact HB.out | apply lA | apply lN | apply lD) | exact HB.out)) hb); (try clear hb); (try clear hb2); (try clear hk); (try clear hi); (try clear ho0); obtain ⟨Ao54, co54, eo54⟩ := Kd.R_slice HO129.out; subst eo54; obtain ⟨Ao55, co55, eo55⟩ := Kd.R_slice HO132.out; subst eo55) | (go_at_call 19; (with_reducible refine (lambrequinref10_Ints.calls k4 _ _ t127 _ _ t130 t133 _ ?side1 ?side2 ?side3 ?side4 A47.out).mono ?_); (case side1 => repeat (first | exact (Kd.R_reads' HO129.out).2.2 | (with_reducible refine Kd.C_alloc ?_ _) | (with_reducible refine Kd.C_drewN ?_ _) | (with_reducible refine Kd.C_drew ?_))); (case side2 => exact (Kd.R_reads' HO129.out).2.1); (case side3 => repeat (first | exact (Kd.R_reads' HO132.out).2.2 | (with_reducible refine Kd.C_alloc ?_ _) | (with_reducible refine Kd.C_drewN ?_ _) | (with_reducible refine Kd.C_drew ?_))); (case side4 => exact (Kd.R_reads' HO132.out).2.1); rintro e w' ⟨rfl, ⟨nd, rfl⟩⟩; (try first | exact ⟨rfl, _, World.drewN_drewN _ _ _⟩ | exact ⟨rfl, _, Eq.trans (World.drewN_drewN _ _ _) (congrArg (World.drewN _) (Nat.add_assoc _ _ _))⟩)))
                repeat (go_quiet (first | (go_at_call 18; (with_reducible refine (graph_Parts.calls k4 a0 _ _ l1 t120 _ ?side1 ?side2 A41.out).mono ?_); (case side1 => repeat (first | exact (Kd.C_below HR1.out HB.out) | (with_reducible refine Kd.C_alloc ?_ _) | (with_reducible refine Kd.C_drewN ?_ _) | (with_reducible refine Kd.C_drew ?_))); (case side2 => exact HC1.out); rintro e w48 ⟨v121, rfl, ho0, hb⟩; replace HO_15 := am (Kd.R_below (by (with_reducible repeat (first | apply Ra | apply Rn | apply Rd)); exact HO_15.out) hb); replace HO_16 := am (Kd.R_below (by (with_reducible repeat (first | apply Ra | apply Rn | apply Rd)); exact HO_16.out) hb); have HO122 := am (Kd.S_lower ho0 (below_size (by repeat (first | (with_reducible first | exact HB.out | apply lA | apply lN | apply lD) | exact HB.out)))); replace HB := am (below_step (by repeat (first | (with_reducible first | exact HB.out | apply lA | apply lN | apply lD) | exact HB.out)) hb); (try clear hb); (try clear hb2); (try clear hk); (try clear hi); (try clear ho0)) | (go_at_call 24; (with_reducible refine (lambrequinref10_Parts.calls k4 a0 _ _ l1 t123 _ ?side1 ?side2 A42.out).mono ?_); (case side1 => repeat (first | exact (Kd.C_below HR1.out HB.out) | (with_reducible refine Kd.C_alloc ?_ _) | (with_reducible refine Kd.C_drewN ?_ _) | (with_reducible refine Kd.C_drew ?_))); (case side2 => exact HC1.out); rintro e w49 ⟨v124, rfl, ho0, hb⟩; replace HO_15 := am (Kd.R_below (by (with_reducible repeat (first | apply Ra | apply Rn | apply Rd)); exact HO_15.out) hb); replace HO_16 := am (Kd.R_below (by (with_reducible repeat (first | apply Ra | apply Rn | apply Rd)); exact HO_16.out) hb); have HO125 := am (Kd.S_lower (Kd.S_new' ho0 (Kd.S_lt (by (with_reducible repeat (first | apply Kd.S_alloc | apply Kd.S_drewN | apply Kd.S_drew)); exact HO122.out))) (below_size (by repeat (first | (with_reducible first | exact HB.out | apply lA | apply lN | apply lD) | exact HB.out)))); replace HO122 := am (Kd.S_elder' (by (with_reducible repeat (first | apply Kd.S_alloc | apply Kd.S_drewN | apply Kd.S_drew)); exact HO122.out) (Kd.S_base ho0) hb); replace HB := am (below_step (by repeat (first | (with_reducible first | exact HB.out | apply lA | apply lN | apply lD) | exact HB.out)) hb); (try clear hb); (try clear hb2); (try clear hk); (try clear hi); (try clear ho0); obtain ⟨Ao50, co50, eo50⟩ := Kd.S_slice HO122.out; subst eo50; obtain ⟨Ao51, co51, eo51⟩ := Kd.S_slice HO125.out; subst eo51) | (go_at_call 17; (with_reducible refine (lambrequinref10_Lists.calls k4 _ _ t120 _ _ t123 true _ ?side1 ?side2 ?side3 ?side4 A43.out).mono ?_); (case side1 => repeat (first | exact (Kd.S_reads' HO122.out).2.2 | (with_reducible refine Kd.C_alloc ?_ _) | (with_reducible refine Kd.C_drewN ?_ _) | (with_reducible refine Kd.C_drew ?_))); (case side2 => exact (Kd.S_reads' HO122.out).2.1); (case side3 => repeat (first | exact (Kd.S_reads' HO125.out).2.2 | (with_reducible refine Kd.C_alloc ?_ _) | (with_reducible refine Kd.C_drewN ?_ _) | (with_reducible refine Kd.C_drew ?_))); (case side4 => exact (Kd.S_reads' HO125.out).2.1); rintro e w' ⟨rfl, ⟨nd, rfl⟩⟩; (try first | exact ⟨rfl, _, World.drewN_drewN _ _ _⟩ | exact ⟨rfl, _, Eq.trans (World.drewN_drewN _ _ _) (congrArg (World.drewN _) (Nat.add_assoc _ _ _))⟩)) | (go_at_call 20; (with_reducible refine (graph_Path.calls k4 a0 _ _ l1 a2 a3 t127 _ ?side1 ?side2 A45.out).mono ?_); (case side1 => repeat (first | exact (Kd.C_below HR1.out (by repeat (first | (with_reducible first | exact HB.out | apply lA | apply lN | apply lD) | exact HB.out))) | (with_reducible refine Kd.C_alloc ?_ _) | (with_reducible refine Kd.C_drewN ?_ _) | (with_reducible refine Kd.C_drew ?_))); (case side2 => exact HC1.out); rintro e w52 ⟨v128, rfl, ho0, hb⟩; replace HO_15 := am (Kd.R_below (by (with_reducible repeat (first | apply Ra | apply Rn | apply Rd)); exact HO_15.out) hb); replace HO_16 := am (Kd.R_below (by (with_reducible repeat (first | apply Ra | apply Rn | apply Rd)); exact HO_16.out) hb); replace HO122 := am (Kd.S_elder' (by (with_reducible repeat (first | apply Kd.S_alloc | apply Kd.S_drewN | apply Kd.S_drew)); exact HO122.out) (Kd.R_base ho0) hb); replace HO125 := am (Kd.S_elder' (by (with_reducible repeat (first | apply Kd.S_alloc | apply Kd.S_drewN | apply Kd.S_drew)); exact HO125.out) (Kd.R_base ho0) hb); have HO129 := am (Kd.R_lower ho0 (below_size (by repeat (first | (with_reducible first | exact HB.out | apply lA | apply lN | apply lD) | exact HB.out)))); replace HB := am (below_step (by repeat (first | (with_reducible first | exact HB.out | apply lA | apply lN | apply lD) | exact HB.out)) hb); (try clear hb); (try clear hb2); (try clear hk); (try clear hi); (try clear ho0)) | (go_at_call 25; (with_reducible refine (lambrequinref10_Path.calls k4 a0 _ _ l1 a2 a3 t130 _ ?side1 ?side2 A46.out).mono ?_); (case side1 => repeat (first | exact (Kd.C_below HR1.out HB.out) | (with_reducible refine Kd.C_alloc ?_ _) | (with_reducible refine Kd.C_drewN ?_ _) | (with_reducible refine Kd.C_drew ?_))); (case side2 => exact HC1.out); rintro e w53 ⟨v131, rfl, ho0, hb⟩; replace HO_15 := am (Kd.R_below (by (with_reducible repeat (first | apply Ra | apply Rn | apply Rd)); exact HO_15.out) hb); replace HO_16 := am (Kd.R_below (by (with_reducible repeat (first | apply Ra | apply Rn | apply Rd)); exact HO_16.out) hb); replace HO122 := am (Kd.S_elder' (by (with_reducible repeat (first | apply Kd.S_alloc | apply Kd.S_drewN | apply Kd.S_drew)); exact HO122.out) (Kd.R_base ho0) hb); replace HO125 := am (Kd.S_elder' (by (with_reducible repeat (first | apply Kd.S_alloc | apply Kd.S_drewN | apply Kd.S_drew)); exact HO125.out) (Kd.R_base ho0) hb); have HO132 := am (Kd.R_lower (Kd.R_new' ho0 (Kd.R_lt (by (with_reducible repeat (first | apply Ra | apply Rn | apply Rd)); exact HO129.out))) (below_size (by repeat (first | (with_reducible first | exact HB.out | apply lA | apply lN | apply lD) | exact HB.out)))); replace HO129 := am (Kd.R_elder' (by (with_reducible repeat (first | apply Ra | apply Rn | apply Rd)); exact HO129.out) (Kd.R_base ho0) hb); replace HB := am (below_step (by repeat (first | (with_reducible first | exact HB.out | apply lA | apply lN | apply lD) | exact HB.out)) hb); (try clear hb); (try clear hb2); (try clear hk); (try clear hi); (try clear ho0); obtain ⟨Ao54, co54, eo54⟩ := Kd.R_slice HO129.out; subst eo54; obtain ⟨Ao55, co55, eo55⟩ := Kd.R_slice HO132.out; subst eo55) | (go_at_call 19; (with_reducible refine (lambrequinref10_Ints.calls k4 _ _ t127 _ _ t130 t133 _ ?side1 ?side2 ?side3 ?side4 A47.out).mono ?_); (case side1 => repeat (first | exact (Kd.R_reads' HO129.out).2.2 | (with_reducible refine Kd.C_alloc ?_ _) | (with_reducible refine Kd.C_drewN ?_ _) | (with_reducible refine Kd.C_drew ?_))); (case side2 => exact (Kd.R_reads' HO129.out).2.1); (case side3 => repeat (first | exact (Kd.R_reads' HO132.out).2.2 | (with_reducible refine Kd.C_alloc ?_ _) | (with_reducible refine Kd.C_drewN ?_ _) | (with_reducible refine Kd.C_drew ?_))); (case side4 => exact (Kd.R_reads' HO132.out).2.1); rintro e w' ⟨rfl, ⟨nd, rfl⟩⟩; (try first | exact ⟨rfl, _, World.drewN_drewN _ _ _⟩ | exact ⟨rfl, _, Eq.trans (World.drewN_drewN _ _ _) (congrArg (World.drewN _) (Nat.add_assoc _ _ _))⟩))); try go_wp2_with (first | (go_at_call 18; (with_reducible refine (graph_Parts.calls k4 a0 _ _ l1 t120 _ ?side1 ?side2 A41.out).mono ?_); (case side1 => repeat (first | exact (Kd.C_below HR1.out HB.out) | (with_reducible refine Kd.C_alloc ?_ _) | (with_reducible refine Kd.C_drewN ?_ _) | (with_reducible refine Kd.C_drew ?_))); (case side2 => exact HC1.out); rintro e w48 ⟨v121, rfl, ho0, hb⟩; replace HO_15 := am (Kd.R_below (by (with_reducible repeat (first | apply Ra | apply Rn | apply Rd)); exact HO_15.out) hb); replace HO_16 := am (Kd.R_below (by (with_reducible repeat (first | apply Ra | apply Rn | apply Rd)); exact HO_16.out) hb); have HO122 := am (Kd.S_lower ho0 (below_size (by repeat (first | (with_reducible first | exact HB.out | apply lA | apply lN | apply lD) | exact HB.out)))); replace HB := am (below_step (by repeat (first | (with_reducible first | exact HB.out | apply lA | apply lN | apply lD) | exact HB.out)) hb); (try clear hb); (try clear hb2); (try clear hk); (try clear hi); (try clear ho0)) | (go_at_call 24; (with_reducible refine (lambrequinref10_Parts.calls k4 a0 _ _ l1 t123 _ ?side1 ?side2 A42.out).mono ?_); (case side1 => repeat (first | exact (Kd.C_below HR1.out HB.out) | (with_reducible refine Kd.C_alloc ?_ _) | (with_reducible refine Kd.C_drewN ?_ _) | (with_reducible refine Kd.C_drew ?_))); (case side2 => exact HC1.out); rintro e w49 ⟨v124, rfl, ho0, hb⟩; replace HO_15 := am (Kd.R_below (by (with_reducible repeat (first | apply Ra | apply Rn | apply Rd)); exact HO_15.out) hb); replace HO_16 := am (Kd.R_below (by (with_reducible repeat (first | apply Ra | apply Rn | apply Rd)); exact HO_16.out) hb); have HO125 := am (Kd.S_lower (Kd.S_new' ho0 (Kd.S_lt (by (with_reducible repeat (first | apply Kd.S_alloc | apply Kd.S_drewN | apply Kd.S_drew)); exact HO122.out))) (below_size (by repeat (first | (with_reducible first | exact HB.out | apply lA | apply lN | apply lD) | exact HB.out)))); replace HO122 := am (Kd.S_elder' (by (with_reducible repeat (first | apply Kd.S_alloc | apply Kd.S_drewN | apply Kd.S_drew)); exact HO122.out) (Kd.S_base ho0) hb); replace HB := am (below_step (by repeat (first | (with_reducible first | exact HB.out | apply lA | apply lN | apply lD) | exact HB.out)) hb); (try clear hb); (try clear hb2); (try clear hk); (try clear hi); (try clear ho0); obtain ⟨Ao50, co50, eo50⟩ := Kd.S_slice HO122.out; subst eo50; obtain ⟨Ao51, co51, eo51⟩ := Kd.S_slice HO125.out; subst eo51) | (go_at_call 17; (with_reducible refine (lambrequinref10_Lists.calls k4 _ _ t120 _ _ t123 true _ ?side1 ?side2 ?side3 ?side4 A43.out).mono ?_); (case side1 => repeat (first | exact (Kd.S_reads' HO122.out).2.2 | (with_reducible refine Kd.C_alloc ?_ _) | (with_reducible refine Kd.C_drewN ?_ _) | (with_reducible refine Kd.C_drew ?_))); (case side2 => exact (Kd.S_reads' HO122.out).2.1); (case side3 => repeat (first | exact (Kd.S_reads' HO125.out).2.2 | (with_reducible refine Kd.C_alloc ?_ _) | (with_reducible refine Kd.C_drewN ?_ _) | (with_reducible refine Kd.C_drew ?_))); (case side4 => exact (Kd.S_reads' HO125.out).2.1); rintro e w' ⟨rfl, ⟨nd, rfl⟩⟩; (try first | exact ⟨rfl, _, World.drewN_drewN _ _ _⟩ | exact ⟨rfl, _, Eq.trans (World.drewN_drewN _ _ _) (congrArg (World.drewN _) (Nat.add_assoc _ _ _))⟩)) | (go_at_call 20; (with_reducible refine (graph_Path.calls k4 a0 _ _ l1 a2 a3 t127 _ ?side1 ?side2 A45.out).mono ?_); (case side1 => repeat (first | exact (Kd.C_below HR1.out (by repeat (first | (with_reducible first | exact HB.out | apply lA | apply lN | apply lD) | exact HB.out))) | (with_reducible refine Kd.C_alloc ?_ _) | (with_reducible refine Kd.C_drewN ?_ _) | (with_reducible refine Kd.C_drew ?_))); (case side2 => exact HC1.out); rintro e w52 ⟨v128, rfl, ho0, hb⟩; replace HO_15 := am (Kd.R_below (by (with_reducible repeat (first | apply Ra | apply Rn | apply Rd)); exact HO_15.out) hb); replace HO_16 := am (Kd.R_below (by (with_reducible repeat (first | apply Ra | apply Rn | apply Rd)); exact HO_16.out) hb); replace HO122 := am (Kd.S_elder' (by (with_reducible repeat (first | apply Kd.S_alloc | apply Kd.S_drewN | apply Kd.S_drew)); exact HO122.out) (Kd.R_base ho0) hb); replace HO125 := am (Kd.S_elder' (by (with_reducible repeat (first | apply Kd.S_alloc | apply Kd.S_drewN | apply Kd.S_drew)); exact HO125.out) (Kd.R_base ho0) hb); have HO129 := am (Kd.R_lower ho0 (below_size (by repeat (first | (with_reducible first | exact HB.out | apply lA | apply lN | apply lD) | exact HB.out)))); replace HB := am (below_step (by repeat (first | (with_reducible first | exact HB.out | apply lA | apply lN | apply lD) | exact HB.out)) hb); (try clear hb); (try clear hb2); (try clear hk); (try clear hi); (try clear ho0)) | (go_at_call 25; (with_reducible refine (lambrequinref10_Path.calls k4 a0 _ _ l1 a2 a3 t130 _ ?side1 ?side2 A46.out).mono ?_); (case side1 => repeat (first | exact (Kd.C_below HR1.out HB.out) | (with_reducible refine Kd.C_alloc ?_ _) | (with_reducible refine Kd.C_drewN ?_ _) | (with_reducible refine Kd.C_drew ?_))); (case side2 => exact HC1.out); rintro e w53 ⟨v131, rfl, ho0, hb⟩; replace HO_15 := am (Kd.R_below (by (with_reducible repeat (first | apply Ra | apply Rn | apply Rd)); exact HO_15.out) hb); replace HO_16 := am (Kd.R_below (by (with_reducible repeat (first | apply Ra | apply Rn | apply Rd)); exact HO_16.out) hb); replace HO122 := am (Kd.S_elder' (by (with_reducible repeat (first | apply Kd.S_alloc | apply Kd.S_drewN | apply Kd.S_drew)); exact HO122.out) (Kd.R_base ho0) hb); replace HO125 := am (Kd.S_elder' (by (with_reducible repeat (first | apply Kd.S_alloc | apply Kd.S_drewN | apply Kd.S_drew)); exact HO125.out) (Kd.R_base ho0) hb); have HO132 := am (Kd.R_lower (Kd.R_new' ho0 (Kd.R_lt (by (with_reducible repeat (first | apply Ra | apply Rn | apply Rd)); exact HO129.out))) (below_size (by repeat (first | (with_reducible first | exact HB.out | apply lA | apply lN | apply lD) | exact HB.out)))); replace HO129 := am (Kd.R_elder' (by (with_reducible repeat (first | apply Ra | apply Rn | apply Rd)); exact HO129.out) (Kd.R_base ho0) hb); replace HB := am (below_step (by repeat (first | (with_reducible first | exact HB.out | apply lA | apply lN | apply lD) | exact HB.out)) hb); (try clear hb); (try clear hb2); (try clear hk); (try clear hi); (try clear ho0); obtain ⟨Ao54, co54, eo54⟩ := Kd.R_slice HO129.out; subst eo54; obtain ⟨Ao55, co55, eo55⟩ := Kd.R_slice HO132.out; subst eo55) | (go_at_call 19; (with_reducible refine (lambrequinref10_Ints.calls k4 _ _ t127 _ _ t130 t133 _ ?side1 ?side2 ?side3 ?side4 A47.out).mono ?_); (case side1 => repeat (first | exact (Kd.R_reads' HO129.out).2.2 | (with_reducible refine Kd.C_alloc ?_ _) | (with_reducible refine Kd.C_drewN ?_ _) | (with_reducible refine Kd.C_drew ?_))); (case side2 => exact (Kd.R_reads' HO129.out).2.1); (case side3 => repeat (first | exact (Kd.R_reads' HO132.out).2.2 | (with_reducible refine Kd.C_alloc ?_ _) | (with_reducible refine Kd.C_drewN ?_ _) | (with_reducible refine Kd.C_drew ?_))); (case side4 => exact (Kd.R_reads' HO132.out).2.1); rintro e w' ⟨rfl, ⟨nd, rfl⟩⟩; (try first | exact ⟨rfl, _, World.drewN_drewN _ _ _⟩ | exact ⟨rfl, _, Eq.trans (World.drewN_drewN _ _ _) (congrArg (World.drewN _) (Nat.add_assoc _ _ _))⟩))))
                go_ret
                exact ⟨by first | rfl | (simp [errW_none, errW_some] <;> rfl) | (simp [*, errW_none, errW_some] <;> rfl), by repeat (first | (with_reducible first | exact HB.out | apply lA | apply lN | apply lD) | exact HB.out)⟩
               ·replace c44 := Bool.eq_false_iff.mpr c44
                subst c44
                have H1 : (some false) = some r := by rw [if_neg (show ¬ (false = true) by decide)] at H; exact H
                clear H
                have H := H1
                clear H1
                obtain rfl := Option.some.inj H
                go_wp2_with (first | (go_at_call 18; (with_reducible refine (graph_Parts.calls k4 a0 _ _ l1 t120 _ ?side1 ?side2 A41.out).mono ?_); (case side1 => repeat (first | exact (Kd.C_below HR1.out HB.out) | (with_reducible refine Kd.C_alloc ?_ _) | (with_reducible refine Kd.C_drewN ?_ _) | (with_reducible refine Kd.C_drew ?_))); (case side2 => exact HC1.out); rintro e w56 ⟨v121, rfl, ho0, hb⟩; replace HO_15 := am (Kd.R_below (by (with_reducible repeat (first | apply Ra | apply Rn | apply Rd)); exact HO_15.out) hb); replace HO_16 := am (Kd.R_below (by (with_reducible repeat (first | apply Ra | apply Rn | apply Rd)); exact HO_16.out) hb); have HO122 := am (Kd.S_lower ho0 (below_size (by repeat (first | (with_reducible first | exact HB.out | apply lA | apply lN | apply lD) | exact HB.out)))); replace HB := am (below_step (by repeat (first | (with_reducible first | exact HB.out | apply lA | apply lN | apply lD) | exact HB.out)) hb); (try clear hb); (try clear hb2); (try clear hk); (try clear hi); (try clear ho0)) | (go_at_call 24; (with_reducible refine (lambrequinref10_Parts.calls k4 a0 _ _ l1 t123 _ ?side1 ?side2 A42.out).mono ?_); (case side1 => repeat (first | exact (Kd.C_below HR1.out HB.out) | (with_reducible refine Kd.C_alloc ?_ _) | (with_reducible refine Kd.C_drewN ?_ _) | (with_reducible refine Kd.C_drew ?_))); (case side2 => exact HC1.out); rintro e w57 ⟨v124, rfl, ho0, hb⟩; replace HO_15 := am (Kd.R_below (by (with_reducible repeat (first | apply Ra | apply Rn | apply Rd)); exact HO_15.out) hb); replace HO_16 := am (Kd.R_below (by (with_reducible repeat (first | apply Ra | apply Rn | apply Rd)); exact HO_16.out) hb); have HO125 := am (Kd.S_lower (Kd.S_new' ho0 (Kd.S_lt (by (with_reducible repeat (first | apply Kd.S_alloc | apply Kd.S_drewN | apply Kd.S_drew)); exact HO122.out))) (below_size (by repeat (first | (with_reducible first | exact HB.out | apply lA | apply lN | apply lD) | exact HB.out)))); replace HO122 := am (Kd.S_elder' (by (with_reducible repeat (first | apply Kd.S_alloc | apply Kd.S_drewN | apply Kd.S_drew)); exact HO122.out) (Kd.S_base ho0) hb); replace HB := am (below_step (by repeat (first | (with_reducible first | exact HB.out | apply lA | apply lN | apply lD) | exact HB.out)) hb); (try clear hb); (try clear hb2); (try clear hk); (try clear hi); (try clear ho0); obtain ⟨Ao58, co58, eo58⟩ := Kd.S_slice HO122.out; subst eo58; obtain ⟨Ao59, co59, eo59⟩ := Kd.S_slice HO125.out; subst eo59) | (go_at_call 17; (with_reducible refine (lambrequinref10_Lists.calls k4 _ _ t120 _ _ t123 false _ ?side1 ?side2 ?side3 ?side4 A43.out).mono ?_); (case side1 => repeat (first | exact (Kd.S_reads' HO122.out).2.2 | (with_reducible refine Kd.C_alloc ?_ _) | (with_reducible refine Kd.C_drewN ?_ _) | (with_reducible refine Kd.C_drew ?_))); (case side2 => exact (Kd.S_reads' HO122.out).2.1); (case side3 => repeat (first | exact (Kd.S_reads' HO125.out).2.2 | (with_reducible refine Kd.C_alloc ?_ _) | (with_reducible refine Kd.C_drewN ?_ _) | (with_reducible refine Kd.C_drew ?_))); (case side4 => exact (Kd.S_reads' HO125.out).2.1); rintro e w' ⟨rfl, ⟨nd, rfl⟩⟩; (try first | exact ⟨rfl, _, World.drewN_drewN _ _ _⟩ | exact ⟨rfl, _, Eq.trans (World.drewN_drewN _ _ _) (congrArg (World.drewN _) (Nat.add_assoc _ _ _))⟩)))
                repeat (go_quiet (first | (go_at_call 18; (with_reducible refine (graph_Parts.calls k4 a0 _ _ l1 t120 _ ?side1 ?side2 A41.out).mono ?_); (case side1 => repeat (first | exact (Kd.C_below HR1.out HB.out) | (with_reducible refine Kd.C_alloc ?_ _) | (with_reducible refine Kd.C_drewN ?_ _) | (with_reducible refine Kd.C_drew ?_))); (case side2 => exact HC1.out); rintro e w56 ⟨v121, rfl, ho0, hb⟩; replace HO_15 := am (Kd.R_below (by (with_reducible repeat (first | apply Ra | apply Rn | apply Rd)); exact HO_15.out) hb); replace HO_16 := am (Kd.R_below (by (with_reducible repeat (first | apply Ra | apply Rn | apply Rd)); exact HO_16.out) hb); have HO122 := am (Kd.S_lower ho0 (below_size (by repeat (first | (with_reducible first | exact HB.out | apply lA | apply lN | apply lD) | exact HB.out)))); replace HB := am (below_step (by repeat (first | (with_reducible first | exact HB.out | apply lA | apply lN | apply lD) | exact HB.out)) hb); (try clear hb); (try clear hb2); (try clear hk); (try clear hi); (try clear ho0)) | (go_at_call 24; (with_reducible refine (lambrequinref10_Parts.calls k4 a0 _ _ l1 t123 _ ?side1 ?side2 A42.out).mono ?_); (case side1 => repeat (first | exact (Kd.C_below HR1.out HB.out) | (with_reducible refine Kd.C_alloc ?_ _) | (with_reducible refine Kd.C_drewN ?_ _) | (with_reducible refine Kd.C_drew ?_))); (case side2 => exact HC1.out); rintro e w57 ⟨v124, rfl, ho0, hb⟩; replace HO_15 := am (Kd.R_below (by (with_reducible repeat (first | apply Ra | apply Rn | apply Rd)); exact HO_15.out) hb); replace HO_16 := am (Kd.R_below (by (with_reducible repeat (first | apply Ra | apply Rn | apply Rd)); exact HO_16.out) hb); have HO125 := am (Kd.S_lower (Kd.S_new' ho0 (Kd.S_lt (by (with_reducible repeat (first | apply Kd.S_alloc | apply Kd.S_drewN | apply Kd.S_drew)); exact HO122.out))) (below_size (by repeat (first | (with_reducible first | exact HB.out | apply lA | apply lN | apply lD) | exact HB.out)))); replace HO122 := am (Kd.S_elder' (by (with_reducible repeat (first | apply Kd.S_alloc | apply Kd.S_drewN | apply Kd.S_drew)); exact HO122.out) (Kd.S_base ho0) hb); replace HB := am (below_step (by repeat (first | (with_reducible first | exact HB.out | apply lA | apply lN | apply lD) | exact HB.out)) hb); (try clear hb); (try clear hb2); (try clear hk); (try clear hi); (try clear ho0); obtain ⟨Ao58, co58, eo58⟩ := Kd.S_slice HO122.out; subst eo58; obtain ⟨Ao59, co59, eo59⟩ := Kd.S_slice HO125.out; subst eo59) | (go_at_call 17; (with_reducible refine (lambrequinref10_Lists.calls k4 _ _ t120 _ _ t123 false _ ?side1 ?side2 ?side3 ?side4 A43.out).mono ?_); (case side1 => repeat (first | exact (Kd.S_reads' HO122.out).2.2 | (with_reducible refine Kd.C_alloc ?_ _) | (with_reducible refine Kd.C_drewN ?_ _) | (with_reducible refine Kd.C_drew ?_))); (case side2 => exact (Kd.S_reads' HO122.out).2.1); (case side3 => repeat (first | exact (Kd.S_reads' HO125.out).2.2 | (with_reducible refine Kd.C_alloc ?_ _) | (with_reducible refine Kd.C_drewN ?_ _) | (with_reducible refine Kd.C_drew ?_))); (case side4 => exact (Kd.S_reads' HO125.out).2.1); rintro e w' ⟨rfl, ⟨nd, rfl⟩⟩; (try first | exact ⟨rfl, _, World.drewN_drewN _ _ _⟩ | exact ⟨rfl, _, Eq.trans (World.drewN_drewN _ _ _) (congrArg (World.drewN _) (Nat.add_assoc _ _ _))⟩))); try go_wp2_with (first | (go_at_call 18; (with_reducible refine (graph_Parts.calls k4 a0 _ _ l1 t120 _ ?side1 ?side2 A41.out).mono ?_); (case side1 => repeat (first | exact (Kd.C_below HR1.out HB.out) | (with_reducible refine Kd.C_alloc ?_ _) | (with_reducible refine Kd.C_drewN ?_ _) | (with_reducible refine Kd.C_drew ?_))); (case side2 => exact HC1.out); rintro e w56 ⟨v121, rfl, ho0, hb⟩; replace HO_15 := am (Kd.R_below (by (with_reducible repeat (first | apply Ra | apply Rn | apply Rd)); exact HO_15.out) hb); replace HO_16 := am (Kd.R_below (by (with_reducible repeat (first | apply Ra | apply Rn | apply Rd)); exact HO_16.out) hb); have HO122 := am (Kd.S_lower ho0 (below_size (by repeat (first | (with_reducible first | exact HB.out | apply lA | apply lN | apply lD) | exact HB.out)))); replace HB := am (below_step (by repeat (first | (with_reducible first | exact HB.out | apply lA | apply lN | apply lD) | exact HB.out)) hb); (try clear hb); (try clear hb2); (try clear hk); (try clear hi); (try clear ho0)) | (go_at_call 24; (with_reducible refine (lambrequinref10_Parts.calls k4 a0 _ _ l1 t123 _ ?side1 ?side2 A42.out).mono ?_); (case side1 => repeat (first | exact (Kd.C_below HR1.out HB.out) | (with_reducible refine Kd.C_alloc ?_ _) | (with_reducible refine Kd.C_drewN ?_ _) | (with_reducible refine Kd.C_drew ?_))); (case side2 => exact HC1.out); rintro e w57 ⟨v124, rfl, ho0, hb⟩; replace HO_15 := am (Kd.R_below (by (with_reducible repeat (first | apply Ra | apply Rn | apply Rd)); exact HO_15.out) hb); replace HO_16 := am (Kd.R_below (by (with_reducible repeat (first | apply Ra | apply Rn | apply Rd)); exact HO_16.out) hb); have HO125 := am (Kd.S_lower (Kd.S_new' ho0 (Kd.S_lt (by (with_reducible repeat (first | apply Kd.S_alloc | apply Kd.S_drewN | apply Kd.S_drew)); exact HO122.out))) (below_size (by repeat (first | (with_reducible first | exact HB.out | apply lA | apply lN | apply lD) | exact HB.out)))); replace HO122 := am (Kd.S_elder' (by (with_reducible repeat (first | apply Kd.S_alloc | apply Kd.S_drewN | apply Kd.S_drew)); exact HO122.out) (Kd.S_base ho0) hb); replace HB := am (below_step (by repeat (first | (with_reducible first | exact HB.out | apply lA | apply lN | apply lD) | exact HB.out)) hb); (try clear hb); (try clear hb2); (try clear hk); (try clear hi); (try clear ho0); obtain ⟨Ao58, co58, eo58⟩ := Kd.S_slice HO122.out; subst eo58; obtain ⟨Ao59, co59, eo59⟩ := Kd.S_slice HO125.out; subst eo59) | (go_at_call 17; (with_reducible refine (lambrequinref10_Lists.calls k4 _ _ t120 _ _ t123 false _ ?side1 ?side2 ?side3 ?side4 A43.out).mono ?_); (case side1 => repeat (first | exact (Kd.S_reads' HO122.out).2.2 | (with_reducible refine Kd.C_alloc ?_ _) | (with_reducible refine Kd.C_drewN ?_ _) | (with_reducible refine Kd.C_drew ?_))); (case side2 => exact (Kd.S_reads' HO122.out).2.1); (case side3 => repeat (first | exact (Kd.S_reads' HO125.out).2.2 | (with_reducible refine Kd.C_alloc ?_ _) | (with_reducible refine Kd.C_drewN ?_ _) | (with_reducible refine Kd.C_drew ?_))); (case side4 => exact (Kd.S_reads' HO125.out).2.1); rintro e w' ⟨rfl, ⟨nd, rfl⟩⟩; (try first | exact ⟨rfl, _, World.drewN_drewN _ _ _⟩ | exact ⟨rfl, _, Eq.trans (World.drewN_drewN _ _ _) (congrArg (World.drewN _) (Nat.add_assoc _ _ _))⟩))))
                go_ret
                exact ⟨by first | rfl | (simp [errW_none, errW_some] <;> rfl) | (simp [*, errW_none, errW_some] <;> rfl), by repeat (first | (with_reducible first | exact HB.out | apply lA | apply lN | apply lD) | exact HB.out)⟩
              ·replace c40 := Bool.eq_false_iff.mpr c40
               subst c40
               have H1 : (some false) = some r := by rw [if_neg (show ¬ (false = true) by decide)] at H; exact H
               clear H
               have H := H1
               clear H1
               obtain rfl := Option.some.inj H
               go_wp2
               repeat (go_quiet (fail); try go_wp2)
               go_ret
               exact ⟨by first | rfl | (simp [errW_none, errW_some] <;> rfl) | (simp [*, errW_none, errW_some] <;> rfl), by repeat (first | (with_reducible first | exact HB.out | apply lA | apply lN | apply lD) | exact HB.out)⟩
          ·rw [if_neg c30] at H
           have c30b0 : ((t112.length : Int) == (t115.length : Int)) = false := beq_eq_false_iff_ne.mpr c30
           have c30b1 : ((t112.length : Int) != (t115.length : Int)) = true := bne_iff_ne.mpr c30
           have c30b2 : (t112.length == t115.length) = false := by first | simpa using c30 | (simp at c30 ⊢; omega)
           obtain rfl := Option.some.inj H
           obtain ⟨Ao60, co60, eo60⟩ := Kd.R_slice HO_10.out
           subst eo60
           go_wp2_with (first | (go_at_call 22; (with_reducible refine (graph_Reach.calls k3 a0 _ _ l1 a2 t112 _ ?side1 ?side2 A28.out).mono ?_); (case side1 => repeat (first | exact (Kd.C_below HR1.out HB.out) | (with_reducible refine Kd.C_alloc ?_ _) | (with_reducible refine Kd.C_drewN ?_ _) | (with_reducible refine Kd.C_drew ?_))); (case side2 => exact HC1.out); rintro e w61 ⟨v113, rfl, ho0, hb⟩; replace HO_10 := am (Kd.R_below (by (with_reducible repeat (first | apply Ra | apply Rn | apply Rd)); exact HO_10.out) hb); replace HO_12 := am (Kd.R_below (by (with_reducible repeat (first | apply Ra | apply Rn | apply Rd)); exact HO_12.out) hb); have HO114 := am (Kd.R_lower ho0 (below_size (by repeat (first | (with_reducible first | exact HB.out | apply lA | apply lN | apply lD) | exact HB.out)))); replace HB := am (below_step (by repeat (first | (with_reducible first | exact HB.out | apply lA | apply lN | apply lD) | exact HB.out)) hb); (try clear hb); (try clear hb2); (try clear hk); (try clear hi); (try clear ho0)) | (go_at_call 23; (with_reducible refine (lambrequinref10_Reach.calls k3 a0 _ _ l1 a2 t115 _ ?side1 ?side2 A29.out).mono ?_); (case side1 => repeat (first | exact (Kd.C_below HR1.out HB.out) | (with_reducible refine Kd.C_alloc ?_ _) | (with_reducible refine Kd.C_drewN ?_ _) | (with_reducible refine Kd.C_drew ?_))); (case side2 => exact HC1.out); rintro e w62 ⟨v116, rfl, ho0, hb⟩; replace HO_10 := am (Kd.R_below (by (with_reducible repeat (first | apply Ra | apply Rn | apply Rd)); exact HO_10.out) hb); replace HO_12 := am (Kd.R_below (by (with_reducible repeat (first | apply Ra | apply Rn | apply Rd)); exact HO_12.out) hb); have HO117 := am (Kd.R_lower (Kd.R_new' ho0 (Kd.R_lt (by (with_reducible repeat (first | apply Ra | apply Rn | apply Rd)); exact HO114.out))) (below_size (by repeat (first | (with_reducible first | exact HB.out | apply lA | apply lN | apply lD) | exact HB.out)))); replace HO114 := am (Kd.R_elder' (by (with_reducible repeat (first | apply Ra | apply Rn | apply Rd)); exact HO114.out) (Kd.R_base ho0) hb); replace HB := am (below_step (by repeat (first | (with_reducible first | exact HB.out | apply lA | apply lN | apply lD) | exact HB.out)) hb); (try clear hb); (try clear hb2); (try clear hk); (try clear hi); (try clear ho0); obtain ⟨Ao63, co63, eo63⟩ := Kd.R_slice HO114.out; subst eo63; obtain ⟨Ao64, co64, eo64⟩ := Kd.R_slice HO117.out; subst eo64))
           repeat (go_quiet (first | (go_at_call 22; (with_reducible refine (graph_Reach.calls k3 a0 _ _ l1 a2 t112 _ ?side1 ?side2 A28.out).mono ?_); (case side1 => repeat (first | exact (Kd.C_below HR1.out HB.out) | (with_reducible refine Kd.C_alloc ?_ _) | (with_reducible refine Kd.C_drewN ?_ _) | (with_reducible refine Kd.C_drew ?_))); (case side2 => exact HC1.out); rintro e w61 ⟨v113, rfl, ho0, hb⟩; replace HO_10 := am (Kd.R_below (by (with_reducible repeat (first | apply Ra | apply Rn | apply Rd)); exact HO_10.out) hb); replace HO_12 := am (Kd.R_below (by (with_reducible repeat (first | apply Ra | apply Rn | apply Rd)); exact HO_12.out) hb); have HO114 := am (Kd.R_lower ho0 (below_size (by repeat (first | (with_reducible first | exact HB.out | apply lA | apply lN | apply lD) | exact HB.out)))); replace HB := am (below_step (by repeat (first | (with_reducible first | exact HB.out | apply lA | apply lN | apply lD) | exact HB.out)) hb); (try clear hb); (try clear hb2); (try clear hk); (try clear hi); (try clear ho0)) | (go_at_call 23; (with_reducible refine (lambrequinref10_Reach.calls k3 a0 _ _ l1 a2 t115 _ ?side1 ?side2 A29.out).mono ?_); (case side1 => repeat (first | exact (Kd.C_below HR1.out HB.out) | (with_reducible refine Kd.C_alloc ?_ _) | (with_reducible refine Kd.C_drewN ?_ _) | (with_reducible refine Kd.C_drew ?_))); (case side2 => exact HC1.out); rintro e w62 ⟨v116, rfl, ho0, hb⟩; replace HO_10 := am (Kd.R_below (by (with_reducible repeat (first | apply Ra | apply Rn | apply Rd)); exact HO_10.out) hb); replace HO_12 := am (Kd.R_below (by (with_reducible repeat (first | apply Ra | apply Rn | apply Rd)); exact HO_12.out) hb); have HO117 := am (Kd.R_lower (Kd.R_new' ho0 (Kd.R_lt (by (with_reducible repeat (first | apply Ra | apply Rn | apply Rd)); exact HO114.out))) (below_size (by repeat (first | (with_reducible first | exact HB.out | apply lA | apply lN | apply lD) | exact HB.out)))); replace HO114 := am (Kd.R_elder' (by (with_reducible repeat (first | apply Ra | apply Rn | apply Rd)); exact HO114.out) (Kd.R_base ho0) hb); replace HB := am (below_step (by repeat (first | (with_reducible first | exact HB.out | apply lA | apply lN | apply lD) | exact HB.out)) hb); (try clear hb); (try clear hb2); (try clear hk); (try clear hi); (try clear ho0); obtain ⟨Ao63, co63, eo63⟩ := Kd.R_slice HO114.out; subst eo63; obtain ⟨Ao64, co64, eo64⟩ := Kd.R_slice HO117.out; subst eo64)); try go_wp2_with (first | (go_at_call 22; (with_reducible refine (graph_Reach.calls k3 a0 _ _ l1 a2 t112 _ ?side1 ?side2 A28.out).mono ?_); (case side1 => repeat (first | exact (Kd.C_below HR1.out HB.out) | (with_reducible refine Kd.C_alloc ?_ _) | (with_reducible refine Kd.C_drewN ?_ _) | (with_reducible refine Kd.C_drew ?_))); (case side2 => exact HC1.out); rintro e w61 ⟨v113, rfl, ho0, hb⟩; replace HO_10 := am (Kd.R_below (by (with_reducible repeat (first | apply Ra | apply Rn | apply Rd)); exact HO_10.out) hb); replace HO_12 := am (Kd.R_below (by (with_reducible repeat (first | apply Ra | apply Rn | apply Rd)); exact HO_12.out) hb); have HO114 := am (Kd.R_lower ho0 (below_size (by repeat (first | (with_reducible first | exact HB.out | apply lA | apply lN | apply lD) | exact HB.out)))); replace HB := am (below_step (by repeat (first | (with_reducible first | exact HB.out | apply lA | apply lN | apply lD) | exact HB.out)) hb); (try clear hb); (try clear hb2); (try clear hk); (try clear hi); (try clear ho0)) | (go_at_call 23; (with_reducible refine (lambrequinref10_Reach.calls k3 a0 _ _ l1 a2 t115 _ ?side1 ?side2 A29.out).mono ?_); (case side1 => repeat (first | exact (Kd.C_below HR1.out HB.out) | (with_reducible refine Kd.C_alloc ?_ _) | (with_reducible refine Kd.C_drewN ?_ _) | (with_reducible refine Kd.C_drew ?_))); (case side2 => exact HC1.out); rintro e w62 ⟨v116, rfl, ho0, hb⟩; replace HO_10 := am (Kd.R_below (by (with_reducible repeat (first | apply Ra | apply Rn | apply Rd)); exact HO_10.out) hb); replace HO_12 := am (Kd.R_below (by (with_reducible repeat (first | apply Ra | apply Rn | apply Rd)); exact HO_12.out) hb); have HO117 := am (Kd.R_lower (Kd.R_new' ho0 (Kd.R_lt (by (with_reducible repeat (first | apply Ra | apply Rn | apply Rd)); exact HO114.out))) (below_size (by repeat (first | (with_reducible first | exact HB.out | apply lA | apply lN | apply lD) | exact HB.out)))); replace HO114 := am (Kd.R_elder' (by (with_reducible repeat (first | apply Ra | apply Rn | apply Rd)); exact HO114.out) (Kd.R_base ho0) hb); replace HB := am (below_step (by repeat (first | (with_reducible first | exact HB.out | apply lA | apply lN | apply lD) | exact HB.out)) hb); (try clear hb); (try clear hb2); (try clear hk); (try clear hi); (try clear ho0); obtain ⟨Ao63, co63, eo63⟩ := Kd.R_slice HO114.out; subst eo63; obtain ⟨Ao64, co64, eo64⟩ := Kd.R_slice HO117.out; subst eo64)))
           go_ret
           exact ⟨by first | rfl | (simp [errW_none, errW_some] <;> rfl) | (simp [*, errW_none, errW_some] <;> rfl), by repeat (first | (with_reducible first | exact HB.out | apply lA | apply lN | apply lD) | exact HB.out)⟩
end Go.Proofs.Ytmlhnjonmjmhdaa.H
/- GraphTells: edges, what can be reached, parts and a shortest path are the document's, or refused -/
namespace Go.Proofs.Ytmlhnjonmjmhdaa.H
open Go.RowKit Go.Proofs.YtmlhnjonmjmhdaaW.PrintWords
theorem nexts_bad {n : Int} {l : List IPair} (hl : l.length ≤ 1000000) (hb : cleanBad n l = true) : Ev (fun k => graph_nexts.f k n l) ([], false) := by
  unfold graph_nexts.f
  have hc : graph_Clean.f n l = some ([], 1) := by unfold graph_Clean.f; rw [if_pos hl, hb]; rfl
  exact Ev.pure hc (Ev.neg (by decide) (Ev.now _))
theorem tells_end {n : Int} {l : List IPair} {a b : Int} {P : List (List Int)} {p : List Int} (h1 : Ev (fun k => graph_Parts.f k n l) P) (h2 : Ev (fun k => lambrequinref10_Parts.f k n l) P) (hP : P.length ≤ 10000000) (hP2 : ∀ r ∈ P, r.length ≤ 10000000)
    (h3 : Ev (fun k => graph_Path.f k n l a b) p) (h4 : Ev (fun k => lambrequinref10_Path.f k n l a b) p) (hp : p.length ≤ 10000000) {x : List Bool} (hx : x.length ≤ 10000000) :
    ∀ (d : List Bool) (i : Nat), x.drop i = d → Ev (fun k => lambrequinlaw10_GraphTells.l1 k n l a b true x x (i : Int)) true
  | [], i, hd => by
    refine Ev.step (fun k => by rw [lambrequinlaw10_GraphTells.l1]) ?_
    exact Ev.neg (drop_end hd) (Ev.pos rfl (Ev.bind h1 (Ev.bind h2 (Ev.bind (Lists_refl P hP hP2) (Ev.pos rfl (Ev.bind h3 (Ev.bind h4 (Ev.bind (Ints_refl p hp) (Ev.now _)))))))))
  | y :: d, i, hd => by
    obtain ⟨g1, g2, g3, g4, g5⟩ := drop_more hd (by omega)
    refine Ev.step (fun k => by rw [lambrequinlaw10_GraphTells.l1]) ?_
    refine Ev.pos g1 (Ev.pos g2 (Ev.pos g1 (Ev.neg (by simp) ?_)))
    rw [g5]
    exact tells_end h1 h2 hP hP2 h3 h4 hp hx d (i + 1) g4
theorem tells_l0 {n : Int} {l c : List IPair} {a b : Int} {x : List Bool} (hx1 : Ev (fun k => graph_Reach.f k n l a) x) (hx2 : Ev (fun k => lambrequinref10_Reach.f k n l a) x) (next : Ev (fun k => lambrequinlaw10_GraphTells.l1 k n l a b true x x 0) true) (hc : c.length ≤ 10000000) :
    ∀ (d : List IPair) (i : Nat), c.drop i = d → Ev (fun k => lambrequinlaw10_GraphTells.l0 k n l a b true c c (i : Int)) true
  | [], i, hd => by
    refine Ev.step (fun k => by rw [lambrequinlaw10_GraphTells.l0]) ?_
    exact Ev.neg (drop_end hd) (Ev.bind hx1 (Ev.bind hx2 (Ev.pos rfl next)))
  | y :: d, i, hd => by
    obtain ⟨g1, g2, g3, g4, g5⟩ := drop_more hd (by omega)
    refine Ev.step (fun k => by rw [lambrequinlaw10_GraphTells.l0]) ?_
    refine Ev.pos g1 (Ev.pos g2 (Ev.pos g1 (Ev.neg (by simp) ?_)))
    rw [g5]
    exact tells_l0 hx1 hx2 next hc d (i + 1) g4
theorem Path_len {n : Nat} {l : List IPair} (hl : l.length ≤ 1000000) (hb : cleanBad (n : Int) l = false) {a b : Int} {p : List Int} (h : Ev (fun k => graph_Path.f k (n : Int) l a b) p) : p.length ≤ 10000000 := by
  obtain ⟨q, hq, hql⟩ := Path_ex hl hb a b
  rw [Ev.uniq h hq]
  omega
theorem tells_j0 {n : Int} {l : List IPair} {a b : Int} (hl : l.length ≤ 1000000) : Ev (fun k => lambrequinlaw10_GraphTells.j0 k n l a b true false) true := by
  refine Ev.step (fun k => by rw [lambrequinlaw10_GraphTells.j0]) ?_
  refine Ev.neg (by decide) ?_
  have hcl : graph_Clean.f n l = some (if cleanBad n l then ([], 1) else (dd (sortL l), 0)) := by unfold graph_Clean.f; rw [if_pos hl]
  have hlen : (dd (sortL l)).length ≤ 10000000 := by
    have h1 := dd_len (sortL l)
    have h2 := (sortL_perm l).length_eq
    omega
  refine Ev.pure hcl (Ev.bind (refClean_ev hl) (Ev.pos rfl ?_))
  rw [bne_self_eq_false]
  refine Ev.step (fun k => by rw [lambrequinlaw10_GraphTells.j1]) ?_
  refine Ev.neg (by decide) ?_
  cases hb : cleanBad n l with
  | true =>
    have hm := may_ev (n := n) hl
    rw [hb] at hm
    have hn := nexts_bad hl hb
    have r1 : Ev (fun k => graph_Reach.f k n l a) [] := by
      unfold graph_Reach.f
      exact Ev.bind hn (Ev.neg (by decide) (Ev.now _))
    have r2 : Ev (fun k => lambrequinref10_Reach.f k n l a) [] := by
      unfold lambrequinref10_Reach.f
      exact Ev.bind hm (Ev.neg (by decide) (Ev.now _))
    have p1 : Ev (fun k => graph_Parts.f k n l) [] := by
      unfold graph_Parts.f
      exact Ev.bind hn (Ev.neg (by decide) (Ev.now _))
    have p2 : Ev (fun k => lambrequinref10_Parts.f k n l) [] := by
      unfold lambrequinref10_Parts.f
      exact Ev.bind hm (Ev.neg (by decide) (Ev.now _))
    have q1 : Ev (fun k => graph_Path.f k n l a b) [] := by
      unfold graph_Path.f
      exact Ev.bind hn (Ev.neg (fun h => by cases h.1) (Ev.now _))
    have q2 : Ev (fun k => lambrequinref10_Path.f k n l a b) [] := by
      unfold lambrequinref10_Path.f
      refine Ev.bind hm (Ev.neg (by decide) ?_)
      refine Ev.step (fun k => by rw [lambrequinref10_Path.j0]) ?_
      exact Ev.pos rfl (Ev.now _)
    exact tells_l0 r1 r2 (tells_end p1 p2 (by simp) (by simp) q1 q2 (by simp) (by simp) [] 0 rfl) (by simp) [] 0 rfl
  | false =>
    have hn0 : 0 ≤ n := by
      unfold cleanBad at hb
      simp at hb
      omega
    obtain ⟨m, rfl⟩ := Int.eq_ofNat_of_zero_le hn0
    have hm1 := bad_n hb
    obtain ⟨P, hP, hP1, hP2⟩ := Parts_exl hl hb
    have hP' := refParts_ev hl hb hP
    have hx : ∃ x, Ev (fun k => graph_Reach.f k (m : Int) l a) x ∧ Ev (fun k => lambrequinref10_Reach.f k (m : Int) l a) x ∧ x.length ≤ 10000000 := by
      by_cases c : a < 0 ∨ (m : Int) ≤ a
      · exact ⟨_, Reach_out hl hb c, refReach_out hl hb c, by simp; omega⟩
      · obtain ⟨z, rfl⟩ := Int.eq_ofNat_of_zero_le (a := a) (by omega)
        have hz : z < m := by omega
        exact ⟨_, Reach_ev hl hb hz, refReach_in hl hb hz, by rw [reach_len hb hz]; omega⟩
    have hp : ∃ p, Ev (fun k => graph_Path.f k (m : Int) l a b) p ∧ Ev (fun k => lambrequinref10_Path.f k (m : Int) l a b) p := by
      by_cases c : inB (m : Int) a b
      · obtain ⟨g1, g2, g3, g4⟩ := id c
        obtain ⟨z, rfl⟩ := Int.eq_ofNat_of_zero_le g1
        obtain ⟨y, rfl⟩ := Int.eq_ofNat_of_zero_le g3
        obtain ⟨p, h1, _⟩ := Path_ex hl hb (z : Int) (y : Int)
        exact ⟨p, h1, refPath_in hl hb (by omega) (by omega) h1⟩
      · refine ⟨[], ?_, ?_⟩
        · unfold graph_Path.f
          exact Ev.bind (nexts_ev hl hb) (Ev.neg (fun h => c h.2) (Ev.now _))
        · have hm := may_ev (n := (m : Int)) hl
          rw [hb] at hm
          unfold lambrequinref10_Path.f
          refine Ev.bind hm (Ev.pos (by decide) ?_)
          have hj : Ev (fun k => lambrequinref10_Path.j0 k (m : Int) l a b true) [] := by
            refine Ev.step (fun k => by rw [lambrequinref10_Path.j0]) ?_
            exact Ev.pos rfl (Ev.now _)
          by_cases c1 : a < 0
          · exact Ev.pos c1 hj
          · refine Ev.neg c1 ?_
            by_cases c2 : a ≥ (m : Int)
            · exact Ev.pos c2 hj
            · refine Ev.neg c2 ?_
              by_cases c3 : b < 0
              · exact Ev.pos c3 hj
              · refine Ev.neg c3 ?_
                have : decide (b ≥ (m : Int)) = true := by
                  rw [decide_eq_true_iff]
                  unfold inB at c
                  omega
                rw [this]
                exact hj
    obtain ⟨x, hx1, hx2, hx3⟩ := hx
    obtain ⟨p, hp1, hp2⟩ := hp
    exact tells_l0 hx1 hx2 (tells_end hP hP' hP1 hP2 hp1 hp2 (Path_len hl hb hp1) hx3 x 0 rfl) hlen _ 0 rfl
theorem GraphTells_ev (n : Int) (l : List IPair) (hl : l.length ≤ 9223372036854775807) (a b : Int) : Ev (fun k => lambrequinlaw10_GraphTells.f k n l a b) true := by
  have hj : Ev (fun k => lambrequinlaw10_GraphTells.j0 k n l a b true true) true := by
    refine Ev.step (fun k => by rw [lambrequinlaw10_GraphTells.j0]) ?_
    exact Ev.pos rfl (Ev.now _)
  unfold lambrequinlaw10_GraphTells.f
  refine Ev.bind shown10_ev ?_
  by_cases c1 : (l.length : Int) > 200
  · exact Ev.pos c1 hj
  · refine Ev.neg c1 ?_
    have hj2 := tells_j0 (n := n) (l := l) (a := a) (b := b) (by omega)
    by_cases c2 : n > 30
    · refine Ev.pos c2 ?_
      cases h : decide (n ≤ 1000) with
      | true => exact hj
      | false => exact hj2
    · exact Ev.neg c2 hj2
theorem GraphTells_pure (a0 : Int) (w0 : (Lit.int .i64 a0).wf = true) (x1 : List IPair) (y1 : x1.length * 16 ≤ 140737488351232) (a2 : Int) (w2 : (Lit.int .i64 a2).wf = true) (a3 : Int) (w3 : (Lit.int .i64 a3).wf = true) :
    ∃ k, lambrequinlaw10_GraphTells.f k a0 x1 a2 a3 = some true :=
  Ev.rounds (g := fun k => lambrequinlaw10_GraphTells.f k a0 x1 a2 a3) (GraphTells_ev a0 x1 (by omega) a2 a3)
theorem GraphTells_walk (w : World) (a0 : Int) (w0 : (Lit.int .i64 a0).wf = true) (x1 : (List IPair)) (A1 : Option Addr) (c1 : Nat) (l1 : x1.length ≤ c1) (g1 : Kd.C k27 w A1 x1.length x1) (y1 : x1.length * 16 ≤ 140737488351232) (a2 : Int) (w2 : (Lit.int .i64 a2).wf = true) (a3 : Int) (w3 : (Lit.int .i64 a3).wf = true) :
    Calls Try.prog 4 #[.int .i64 a0, .slice A1 x1.length c1, .int .i64 a2, .int .i64 a3] w fun e w' => e = .returned (.bool true) ∧ Below w.heap.size w w' := by
  obtain ⟨k, h⟩ := GraphTells_pure a0 w0 x1 y1 a2 w2 a3 w3
  exact (lambrequinlaw10_GraphTells.calls k a0 A1 c1 x1 a2 a3 true w g1 l1 h).mono (fun e w' h' => ⟨h'.1, h'.2⟩)
end Go.Proofs.Ytmlhnjonmjmhdaa.H
namespace Go.Proofs.Ytmlhnjonmjmhdaa.graphTells
open Go.ChangeShapes Go.WideShapes Go.ChangeAt Go.RowKit Go.Proofs.Ytmlhnjonmjmhdaa.H Go.Proofs.YtmlhnjonmjmhdaaW.PrintWords
open Go.ChangeMaps (open_string shut_string)
theorem own : ownKnob Try.prog.godebug = none := by kernel_rfl
theorem laidOut : laidOutB Try.prog = true := by kernel_rfl
set_option maxRecDepth 100000 in
theorem lifted (os : Os) (started : os.Started) (H : Type) (enc : TypeId × Value → H) :
    ReturnsInHanded {} Try.checked os 4 .any (Rows.graphTellsSpec.pre6 enc Try.prog Try.f4 Rows.graphTellsRow.domain false) (Rows.graphTellsSpec.post enc Try.prog Try.f4 false true false false) := by
  refine returnsInHanded_of_change_sized (C := Try.checked) own started (by kernel_rfl) Try.func4
    (ChangeSpec.witness6 (enc := enc) (C := Try.checked) false ⟨#[], #[.int .i64 0, .slice none 0 0, .int .i64 0, .int .i64 0], []⟩ 8 (by kernel_rfl) (by kernel_rfl) (by kernel_rfl) (by kernel_rfl)) ?_
  intro W base args ds gs before hval0 hW hcnd hsz0 _
  have hsz : (DataW.weightsEach Try.prog (Try.f4.params.toList ++ Rows.graphTellsSpec.plain.varTypes Try.prog) (ds ++ gs)).all (· ≤ reachBytes) = true := hsz0
  have hval : ∀ (j : Nat) t v, Try.f4.params[j]? = some t → args[j]? = some v → Value.okWide Try.prog W .any base t v := hval0
  have hW' := hW
  obtain ⟨p, q, hA0, hV, rfl, hfz, hnd⟩ := hW
  have hA : DataW.TrodAll enc Try.prog W 0 (fun _ => true) true Try.f4.params.toList args.toList ds p := hA0
  rw [Try.params4] at hA hval hsz
  obtain ⟨v0, vs0, d0, ds0, p0, q0, hargs, rfl, rfl, h0, r0⟩ := trodAll_cons hA
  obtain ⟨v1, vs1, d1, ds1, p1, q1, rfl, rfl, rfl, h1, r1⟩ := trodAll_cons r0
  obtain ⟨v2, vs2, d2, ds2, p2, q2, rfl, rfl, rfl, h2, r2⟩ := trodAll_cons r1
  obtain ⟨v3, vs3, d3, ds3, p3, q3, rfl, rfl, rfl, h3, r3⟩ := trodAll_cons r2
  obtain ⟨rfl, rfl, rfl⟩ := trodAll_nil r3
  obtain rfl : args = #[v0, v1, v2, v3] := by cases args; simp_all
  obtain ⟨rfl, rfl⟩ := trodVars_none hV
  obtain ⟨a0, rfl, rfl, rfl, w0⟩ := open_int Try.underlying3 (hval 0 3 v0 rfl rfl) h0
  have k1 := h1
  have lt1 : ∀ x ∈ p1, x.block < W.heap.size := by obtain ⟨m, hm⟩ := k1; exact DataW.trod_lt m _ _ _ hm
  obtain ⟨a1, len1, cap1, rfl⟩ := okWide_slice Try.underlying24 (hval 1 24 v1 rfl rfl)
  have y1 := sized_row hsz (j := 1) (t := 24) rfl rfl Try.underlying24 (B := 16) (by kernel_rfl) h1
  obtain ⟨x1, A1, c1, e1, l1, g1⟩ := (opens_slice Try.underlying24 (by kernel_rfl) opens_IPair 27).arg k1
  simp only [Value.cells, List.cons.injEq, and_true, Value.slice.injEq] at e1
  obtain ⟨rfl, rfl, rfl⟩ := e1
  obtain ⟨a2, rfl, rfl, rfl, w2⟩ := open_int Try.underlying3 (hval 2 3 v2 rfl rfl) h2
  obtain ⟨a3, rfl, rfl, rfl, w3⟩ := open_int Try.underlying3 (hval 3 3 v3 rfl rfl) h3
  clear hA0 hval0 hsz0 hsz
  refine (GraphTells_walk W a0 w0 x1 a1 cap1 l1 g1 y1 a2 w2 a3 w3).mono fun e W' ⟨he, bel⟩ => ?_
  subst he
  exact ⟨_, rfl, _, _, _, [], _, [], hW', trodAll_mk1 (shut_bool Try.underlying4 _), (trodAll_cons_mk (shut_int Try.underlying3 w0) (trodAll_cons_mk (Below.trod laidOut (by kernel_rfl) (of_decide_eq_true (by kernel_rfl)) k1 bel lt1) (trodAll_cons_mk (shut_int Try.underlying3 w2) (trodAll_cons_mk (shut_int Try.underlying3 w3) trodAll_mk0)))), rfl, bel.frame _, fun h => by cases h⟩
theorem over : Rows.graphTellsRow.holds Try.pinned (OpenSpec.ofChange Rows.graphTellsSpec) :=
  OpenClaim.holds_of_wide 4 Try.f4 rfl rfl rfl rfl rfl rfl rfl ⟨rfl, rfl, rfl, rfl, rfl⟩ rfl rfl rfl rfl rfl (by kernel_rfl) Try.func4 (by kernel_rfl)
    (of_decide_eq_true (by kernel_rfl)) (by unfold Func.isWrapper; first | (rw [if_pos (by decide +kernel)]; kernel_rfl) | (rw [if_neg (by decide +kernel)]; exact ⟨rfl, rfl⟩))
    (fun os started H enc _ => lifted os started H enc)
theorem proved : Rows.GraphTellsSaid := over
end Go.Proofs.Ytmlhnjonmjmhdaa.graphTells
namespace Go.Proofs.Ytmlhnjonmjmhdaa
theorem graphTells_holds : Rows.GraphTellsSaid := graphTells.proved
#print axioms graphTells_holds
end Go.Proofs.Ytmlhnjonmjmhdaa

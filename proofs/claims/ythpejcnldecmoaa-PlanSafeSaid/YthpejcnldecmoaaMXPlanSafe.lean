/- RowPlanSafe of the seat's law PlanSafe: the law holds, under the statement's own conditions. -/
import Derived.Test.YthpejcnldecmoaaMA
import Derived.Test.YthpejcnldecmoaaMD
import Derived.Test.YthpejcnldecmoaaMF
import Derived.Test.YthpejcnldecmoaaMC
import Derived.Test.YthpejcnldecmoaaMB
import Derived.Test.YthpejcnldecmoaaMD2
import Derived.Test.YthpejcnldecmoaaRows
import Derived.Test.YthpejcnldecmoaaWSized
import Derived.WalkKit
import Derived.ProofKit
import Derived.OpenShut
import Derived.ShutString
import Derived.ChangeOld
import Derived.Below
import Derived.SizedLaws
import Derived.Carry
namespace Go.Proofs.Ythpejcnldecmoaa.H
open Go.RowKit Go.Proofs.YthpejcnldecmoaaW.PrintWords Go.Proofs.YthpejcnldecmoaaW.PrintLast Go.Proofs.YthpejcnldecmoaaW.PrintMore
attribute [local go_sem] max2_int min2_int max_two min_two max_three min_three max_four min_four
set_option linter.unusedVariables false
set_option linter.unusedSimpArgs false
mutual
def lambrequinlaw13_PlanSafe.l0 : Nat → Bool → Int → ByteArray → List (Term) → List (Liter) → Option (Bool)
 | 0, _, _, _, _, _ => none
 | k + 1, x3, x4, x102000, x102001, x102002 => if x4 < (x102002.length : Int) then (if 0 ≤ x4 then (if ((rd_T47 x102002 x4).kind) < 1 then ((plan_Order.f x102000 x102001 x102002 (-1)).bind fun bt105 => (if x3 = true then (some (bt105.2 == 1)) else (some false))) else (if ((rd_T47 x102002 x4).kind) > 3 then ((plan_Order.f x102000 x102001 x102002 (-1)).bind fun bt110 => (if x3 = true then (some (bt110.2 == 1)) else (some false))) else (lambrequinlaw13_PlanSafe.l0 k x3 (wrap64 (x4 + 1)) x102000 x102001 x102002))) else (none)) else ((safe_Check.f k (⟨#[]⟩ : ByteArray) ([] : List (Term)) x102002).bind fun bt114 => ((plan_Order.f x102000 x102001 x102002 (-1)).bind fun bt117 => (lambrequinlaw13_PlanSafe.l1 k x3 bt114.2.2 bt117.2 0 x102000 x102001 x102002)))
def lambrequinlaw13_PlanSafe.l1 : Nat → Bool → Int → Int → Int → ByteArray → List (Term) → List (Liter) → Option (Bool)
 | 0, _, _, _, _, _, _, _ => none
 | k + 1, x3, x9, x11, x12, x102000, x102001, x102002 => if x12 < (x102002.length : Int) then ((plan_Order.f x102000 x102001 x102002 x12).bind fun bt121 => (if 0 ≤ x12 then (if ((rd_T47 x102002 x12).kind) = 1 then (if bt121.2 = x9 then (lambrequinlaw13_PlanSafe.l1 k x3 x9 x11 (wrap64 (x12 + 1)) x102000 x102001 x102002) else (some false)) else (if bt121.2 = 1 then (lambrequinlaw13_PlanSafe.l1 k x3 x9 x11 (wrap64 (x12 + 1)) x102000 x102001 x102002) else (some false))) else (none))) else (if x3 = true then (some (x9 == x11)) else (some false))
end
def lambrequinlaw13_PlanSafe.f (k : Nat) (a0_0 : ByteArray) (l0_1 : List (Term)) (l0_2 : List (Liter)) : Option (Bool) := (lambrequinlaw13_shown.f).bind fun t102 => ((lambrequinlaw13_few.f k a0_0 l0_1 l0_2).bind fun t103 => (if t103 = true then (lambrequinlaw13_PlanSafe.l0 k t102 0 a0_0 l0_1 l0_2) else (some t102)))
theorem lambrequinlaw13_PlanSafe.mono_l : ∀ k, (∀ y0 y1 y2 y3 y4, LeO (lambrequinlaw13_PlanSafe.l0 k y0 y1 y2 y3 y4) (lambrequinlaw13_PlanSafe.l0 (k + 1) y0 y1 y2 y3 y4)) ∧ (∀ y0 y1 y2 y3 y4 y5 y6, LeO (lambrequinlaw13_PlanSafe.l1 k y0 y1 y2 y3 y4 y5 y6) (lambrequinlaw13_PlanSafe.l1 (k + 1) y0 y1 y2 y3 y4 y5 y6))
 | 0 => ⟨fun _ _ _ _ _ r h => by simp [lambrequinlaw13_PlanSafe.l0] at h, fun _ _ _ _ _ _ _ r h => by simp [lambrequinlaw13_PlanSafe.l1] at h⟩
 | k + 1 => by
  obtain ⟨ih0, ih1⟩ := lambrequinlaw13_PlanSafe.mono_l k
  refine ⟨?_, ?_⟩
  ·intro y0 y1 y2 y3 y4
   unfold lambrequinlaw13_PlanSafe.l0
   repeat' first
   | (with_reducible exact ih0 _ _ _ _ _)
   | (with_reducible exact ih1 _ _ _ _ _ _ _)
   | (with_reducible exact lambrequinlaw13_few.mono _ _ _ _)
   | (with_reducible exact safe_Check.mono _ _ _ _)
   | (with_reducible exact LeO.refl _)
   | (with_reducible exact LeO.none _)
   | (with_reducible refine LeO.ite ?_ ?_)
   | (with_reducible refine LeO.bind ?_ (fun _ => ?_))
   | exact ih0 _ _ _ _ _
   | exact ih1 _ _ _ _ _ _ _
   | exact lambrequinlaw13_few.mono _ _ _ _
   | exact safe_Check.mono _ _ _ _
   | exact LeO.none _
   | refine LeO.ite ?_ ?_
   | refine LeO.bind ?_ (fun _ => ?_)
  ·intro y0 y1 y2 y3 y4 y5 y6
   unfold lambrequinlaw13_PlanSafe.l1
   repeat' first
   | (with_reducible exact ih0 _ _ _ _ _)
   | (with_reducible exact ih1 _ _ _ _ _ _ _)
   | (with_reducible exact lambrequinlaw13_few.mono _ _ _ _)
   | (with_reducible exact safe_Check.mono _ _ _ _)
   | (with_reducible exact LeO.refl _)
   | (with_reducible exact LeO.none _)
   | (with_reducible refine LeO.ite ?_ ?_)
   | (with_reducible refine LeO.bind ?_ (fun _ => ?_))
   | exact ih0 _ _ _ _ _
   | exact ih1 _ _ _ _ _ _ _
   | exact lambrequinlaw13_few.mono _ _ _ _
   | exact safe_Check.mono _ _ _ _
   | exact LeO.none _
   | refine LeO.ite ?_ ?_
   | refine LeO.bind ?_ (fun _ => ?_)
theorem lambrequinlaw13_PlanSafe.mono : ∀ a0 a1 a2 k, LeO (lambrequinlaw13_PlanSafe.f k a0 a1 a2) (lambrequinlaw13_PlanSafe.f (k + 1) a0 a1 a2) := by
 intro a0 a1 a2 k
 obtain ⟨ih0, ih1⟩ := lambrequinlaw13_PlanSafe.mono_l k
 unfold lambrequinlaw13_PlanSafe.f
 repeat' first
   | (with_reducible exact ih0 _ _ _ _ _)
   | (with_reducible exact ih1 _ _ _ _ _ _ _)
   | (with_reducible exact lambrequinlaw13_few.mono _ _ _ _)
   | (with_reducible exact safe_Check.mono _ _ _ _)
   | (with_reducible exact LeO.refl _)
   | (with_reducible exact LeO.none _)
   | (with_reducible refine LeO.ite ?_ ?_)
   | (with_reducible refine LeO.bind ?_ (fun _ => ?_))
   | exact ih0 _ _ _ _ _
   | exact ih1 _ _ _ _ _ _ _
   | exact lambrequinlaw13_few.mono _ _ _ _
   | exact safe_Check.mono _ _ _ _
   | exact LeO.none _
   | refine LeO.ite ?_ ?_
   | refine LeO.bind ?_ (fun _ => ?_)
set_option maxHeartbeats 8000000 in
set_option maxRecDepth 100000 in
theorem lambrequinlaw13_PlanSafe.calls (k : Nat) (a0_0 : ByteArray) (A0_1 : Option Addr) (c0_1 : Nat) (l0_1 : List (Term)) (A0_2 : Option Addr) (c0_2 : Nat) (l0_2 : List (Liter)) (r : Bool) (w : World) (hr0_1 : Kd.C k45 w A0_1 l0_1.length l0_1) (hc0_1 : l0_1.length ≤ c0_1) (hr0_2 : Kd.C k47 w A0_2 l0_2.length l0_2) (hc0_2 : l0_2.length ≤ c0_2) (h : lambrequinlaw13_PlanSafe.f k a0_0 l0_1 l0_2 = some r) :
  Calls Try.prog 14 #[.agg #[.string a0_0, .slice A0_1 l0_1.length c0_1, .slice A0_2 l0_2.length c0_2]] w fun e w' => e = .returned (.bool r) ∧ Below w.heap.size w w' := by
 have hu27 := Try.underlying27
 have HR0_1 := Aside0.mk hr0_1
 have HC0_1 := Aside0.mk hc0_1
 clear hr0_1 hc0_1
 have HR0_2 := Aside0.mk hr0_2
 have HC0_2 := Aside0.mk hc0_2
 clear hr0_2 hc0_2
 have HB := Aside0.mk (Below.refl w.heap.size w)
 have H : ((lambrequinlaw13_shown.f).bind fun t102 => ((lambrequinlaw13_few.f k a0_0 l0_1 l0_2).bind fun t103 => (if t103 = true then (lambrequinlaw13_PlanSafe.l0 k t102 0 a0_0 l0_1 l0_2) else (some t102)))) = some r := h
 clear h
 replace H := Option.bind_eq_some_iff.mp H
 obtain ⟨t102, A20, H⟩ := H
 replace H : ((lambrequinlaw13_few.f k a0_0 l0_1 l0_2).bind fun t103 => (if t103 = true then (lambrequinlaw13_PlanSafe.l0 k t102 0 a0_0 l0_1 l0_2) else (some t102))) = some r := H
 have A2 := Aside0.mk A20
 clear A20
 replace H := Option.bind_eq_some_iff.mp H
 obtain ⟨t103, A30, H⟩ := H
 replace H : (if t103 = true then (lambrequinlaw13_PlanSafe.l0 k t102 0 a0_0 l0_1 l0_2) else (some t102)) = some r := H
 have A3 := Aside0.mk A30
 clear A30
 by_cases c4 : t103 = true
 ·subst c4
  have H1 : (lambrequinlaw13_PlanSafe.l0 k t102 0 a0_0 l0_1 l0_2) = some r := by rw [if_pos rfl] at H; exact H
  clear H
  have H := H1
  clear H1
  have H' := Aside0.mk H
  clear H
  go_enter Try.func14, Try.ntmps14
  go_wp2_with (first | ((with_reducible refine gate_dst (N := 1) rfl ?_); refine box_event ?hg (N := 1) ?hd (cs := #[.string a0_0, .slice A0_1 l0_1.length c0_1, .slice A0_2 l0_2.length c0_2]) (t := 27) ?hr ?_; (case hd => rfl); (case hg => rfl); (case hr => first | (go_simp; done) | (go_simp; rfl)); intro gb101 hg w5 hbox hb; have n0_ := Aside0.mk (below_step (by repeat (first | (with_reducible first | exact HB.out | apply below_alloc | apply pw_below_drewN | apply below_drew1) | exact HB.out)) hb); have n1_ := Aside0.mk (hbox); have n2_ := Aside0.mk ((by rw [hg]; exact (below_size (by repeat (first | (with_reducible first | exact HB.out | apply below_alloc | apply pw_below_drewN | apply below_drew1) | exact HB.out))) : w.heap.size ≤ gb101)); have n3_ := Aside0.mk ((by rw [hg]; exact (below_size (by repeat (first | (with_reducible first | exact HB.out | apply below_alloc | apply pw_below_drewN | apply below_drew1) | exact HB.out))) : w.heap.size ≤ gb101)); clear HB; have HB := n0_; have BK101 := n1_; have GW101 := n2_; have GE101 := n3_; clear n0_ n1_ n2_ n3_; clear hb hbox hg) | ((with_reducible refine gate_callee (f := 15) rfl ?_); refine goesL_ (some 16) rfl rfl Try.func15 (by kernel_rfl) rfl #[] rfl (by (try simp only [List.map_toArray, List.map_cons, List.map_nil]); first | done | rfl | (simp only [List.length_drop, List.length_take]; rfl)) ?_; (with_reducible refine (lambrequinlaw13_shown.calls  t102 _ A2.out).mono ?_); rintro e w6 ⟨rfl, hb⟩; refine ⟨_, rfl, ?_⟩; have n0_ := Aside0.mk (blk_below (g := gb101) (o := .cells #[.string a0_0, .slice A0_1 l0_1.length c0_1, .slice A0_2 l0_2.length c0_2] 27 (0, 0)) (by (with_reducible repeat (first | refine blk_drewN ?_ _ | refine blk_drew ?_ | refine blk_alloc ?_ _)); exact BK101.out) hb); have n1_ := Aside0.mk (below_step (by repeat (first | (with_reducible first | exact HB.out | apply below_alloc | apply pw_below_drewN | apply below_drew1 | refine below_set ?_ GE101.out) | exact HB.out)) hb); clear BK101; clear HB; have BK101 := n0_; have HB := n1_; clear n0_ n1_; (try clear hb); (try clear hb2); (try clear hk); (try clear hi); have hcz7_0 : w6.cell? ⟨gb101, 0, none⟩ = some (.string a0_0) := (blk_cell BK101.out 0).trans rfl; have hcz7_1 : w6.cell? ⟨gb101, 1, none⟩ = some (.slice A0_1 l0_1.length c0_1) := (blk_cell BK101.out 1).trans rfl; have hcz7_2 : w6.cell? ⟨gb101, 2, none⟩ = some (.slice A0_2 l0_2.length c0_2) := (blk_cell BK101.out 2).trans rfl; have hfz7_0 := blk_frozen BK101.out 0; have hfz7_1 := blk_frozen BK101.out 1; have hfz7_2 := blk_frozen BK101.out 2) | ((with_reducible refine gate_callee (f := 16) rfl ?_); refine goesL_ (some 18) rfl rfl Try.func16 (by kernel_rfl) rfl #[.agg #[.string a0_0, .slice A0_1 l0_1.length c0_1, .slice A0_2 l0_2.length c0_2]] rfl (by (try simp only [List.map_toArray, List.map_cons, List.map_nil]); first | done | rfl | (simp only [List.length_drop, List.length_take]; rfl)) ?_; (with_reducible refine (lambrequinlaw13_few.calls k a0_0 _ _ l0_1 _ _ l0_2 true _ ?side1 ?side2 ?side3 ?side4 A3.out).mono ?_); (case side1 => repeat (first | exact (Kd.C_below HR0_1.out HB.out) | (with_reducible refine Kd.C_alloc ?_ _) | (with_reducible refine Kd.C_drewN ?_ _) | (with_reducible refine Kd.C_drew ?_))); (case side2 => exact HC0_1.out); (case side3 => repeat (first | exact (Kd.C_below HR0_2.out HB.out) | (with_reducible refine Kd.C_alloc ?_ _) | (with_reducible refine Kd.C_drewN ?_ _) | (with_reducible refine Kd.C_drew ?_))); (case side4 => exact HC0_2.out); rintro e w8 ⟨rfl, hb⟩; refine ⟨_, rfl, ?_⟩; have n0_ := Aside0.mk (blk_below (g := gb101) (o := .cells #[.string a0_0, .slice A0_1 l0_1.length c0_1, .slice A0_2 l0_2.length c0_2] 27 (0, 0)) (by (with_reducible repeat (first | refine blk_drewN ?_ _ | refine blk_drew ?_ | refine blk_alloc ?_ _)); exact BK101.out) hb); have n1_ := Aside0.mk (below_step (by repeat (first | (with_reducible first | exact HB.out | apply below_alloc | apply pw_below_drewN | apply below_drew1 | refine below_set ?_ GE101.out) | exact HB.out)) hb); clear BK101; clear HB; have BK101 := n0_; have HB := n1_; clear n0_ n1_; (try clear hb); (try clear hb2); (try clear hk); (try clear hi)))
  go_loopg [4] k (fun kq v4 w' => ∃ (x4_1 : Int), v4 = .int .i64 x4_1 ∧ Aside0 (lambrequinlaw13_PlanSafe.l0 kq t102 x4_1 a0_0 l0_1 l0_2 = some r) ∧ Aside0 (kq ≤ k) ∧ Aside0 (w'.heap[gb101]? = some (.cells #[.string a0_0, (.slice A0_1 l0_1.length c0_1), (.slice A0_2 l0_2.length c0_2)] 27 (0, 0))) ∧ Aside0 (Below w.heap.size w w'))
  case atStart => exact ⟨(0), (by first | rfl | (simp; done) | (simp [*]; done)), H', ⟨Nat.le_refl _⟩, ⟨by (with_reducible repeat (first | refine blk_drewN ?_ _ | refine blk_drew ?_ | refine blk_alloc ?_ _)); exact BK101.out⟩, ⟨by repeat (first | (with_reducible first | exact HB.out | apply below_alloc | apply pw_below_drewN | apply below_drew1 | refine below_set ?_ GE101.out) | exact HB.out)⟩⟩
  case round =>
   clear H'
   try clear c1
   try clear p2
   try clear c4
   try clear hcz7_0
   try clear hcz7_1
   try clear hcz7_2
   try clear hfz7_0
   try clear hfz7_1
   try clear hfz7_2
   obtain ⟨x4_1, rfl, HA, HK1, BK101, HB⟩ := hrel
   cases gk with
   | zero => exact absurd HA.out (by simp [lambrequinlaw13_PlanSafe.l0])
   | succ k1 =>
    have H := HA.out
    clear HA
    simp only [lambrequinlaw13_PlanSafe.l0] at H
    by_cases c9 : x4_1 < (l0_2.length : Int)
    ·rw [if_pos c9] at H
     have c9b0 : decide (x4_1 < (l0_2.length : Int)) = true := decide_eq_true c9
     clear c9
     by_cases c10 : 0 ≤ x4_1
     ·rw [if_pos c10] at H
      have c10b0 : decide (0 ≤ x4_1) = true := decide_eq_true c10
      clear c10
      by_cases c11 : ((rd_T47 l0_2 x4_1).kind) < 1
      ·rw [if_pos c11] at H
       have c11b0 : decide (((rd_T47 l0_2 x4_1).kind) < 1) = true := decide_eq_true c11
       clear c11
       replace H := Option.bind_eq_some_iff.mp H
       obtain ⟨⟨t105, t108⟩, A120, H⟩ := H
       replace H : (if t102 = true then (some (t108 == 1)) else (some false)) = some r := H
       have A12 := Aside0.mk A120
       clear A120
       by_cases c13 : t102 = true
       ·subst c13
        have H1 : (some (t108 == 1)) = some r := by rw [if_pos rfl] at H; exact H
        clear H
        have H := H1
        clear H1
        obtain rfl := Option.some.inj H
        have hcz14_0 : wr.cell? ⟨gb101, 0, none⟩ = some (.string a0_0) := (blk_cell BK101.out 0).trans rfl
        have hcz14_1 : wr.cell? ⟨gb101, 1, none⟩ = some (.slice A0_1 l0_1.length c0_1) := (blk_cell BK101.out 1).trans rfl
        have hcz14_2 : wr.cell? ⟨gb101, 2, none⟩ = some (.slice A0_2 l0_2.length c0_2) := (blk_cell BK101.out 2).trans rfl
        have hfz14_0 := blk_frozen BK101.out 0
        have hfz14_1 := blk_frozen BK101.out 1
        have hfz14_2 := blk_frozen BK101.out 2
        have p104 : 0 ≤ (x4_1 : Int) := of_decide_eq_true (by first | (with_reducible assumption) | assumption)
        have q104 : x4_1 < (l0_2.length : Int) := of_decide_eq_true (by first | (with_reducible assumption) | assumption)
        obtain ⟨ad104, A104_2, c104_2, e104, hx104_0, hx104_1, hx104_2, hx104_3, hx104_4, hx104_5, hx104_6, hx104_7, hx104_8, hx104_9, hx104_10, hx104_11, hx104_12, hx104_13, hl104_2, hi104_2⟩ := at_T47 HR0_2.out x4_1 p104 q104
        cases e104
        replace hx104_0 := (HB.out.cell (blt_ hx104_0)).trans hx104_0
        replace hx104_1 := (HB.out.cell (blt_ hx104_1)).trans hx104_1
        replace hx104_2 := (HB.out.cell (blt_ hx104_2)).trans hx104_2
        replace hx104_3 := (HB.out.cell (blt_ hx104_3)).trans hx104_3
        replace hx104_4 := (HB.out.cell (blt_ hx104_4)).trans hx104_4
        replace hx104_5 := (HB.out.cell (blt_ hx104_5)).trans hx104_5
        replace hx104_6 := (HB.out.cell (blt_ hx104_6)).trans hx104_6
        replace hx104_7 := (HB.out.cell (blt_ hx104_7)).trans hx104_7
        replace hx104_8 := (HB.out.cell (blt_ hx104_8)).trans hx104_8
        replace hx104_9 := (HB.out.cell (blt_ hx104_9)).trans hx104_9
        replace hx104_10 := (HB.out.cell (blt_ hx104_10)).trans hx104_10
        replace hx104_11 := (HB.out.cell (blt_ hx104_11)).trans hx104_11
        replace hx104_12 := (HB.out.cell (blt_ hx104_12)).trans hx104_12
        replace hx104_13 := (HB.out.cell (blt_ hx104_13)).trans hx104_13
        have HR104_2 := Aside0.mk hi104_2
        have HC104_2 := Aside0.mk hl104_2
        clear hi104_2 hl104_2
        replace p104 := eq_true p104
        replace q104 := eq_true q104
        go_wp2_with (first | ((with_reducible refine gate_callee (f := 17) rfl ?_); refine goesL_ (some 46) rfl rfl Try.func17 (by kernel_rfl) rfl #[.agg #[.string a0_0, .slice A0_1 l0_1.length c0_1, .slice (some ad104) l0_2.length c0_2], .int .i64 (-1)] rfl (by (try simp only [List.map_toArray, List.map_cons, List.map_nil]); first | done | rfl | (simp only [List.length_drop, List.length_take]; rfl)) ?_; (with_reducible refine (plan_Order.calls a0_0 _ _ l0_1 _ _ l0_2 (-1) t105 t108 _ ?side1 ?side2 ?side3 ?side4 A12.out).mono ?_); (case side1 => repeat (first | exact (Kd.C_below HR0_1.out HB.out) | (with_reducible refine Kd.C_alloc ?_ _) | (with_reducible refine Kd.C_drewN ?_ _) | (with_reducible refine Kd.C_drew ?_))); (case side2 => exact HC0_1.out); (case side3 => repeat (first | exact (Kd.C_below HR0_2.out HB.out) | (with_reducible refine Kd.C_alloc ?_ _) | (with_reducible refine Kd.C_drewN ?_ _) | (with_reducible refine Kd.C_drew ?_))); (case side4 => exact HC0_2.out); rintro e w15 ⟨v106, rfl, ho0, hb⟩; refine ⟨_, rfl, ?_⟩; have n0_ := Aside0.mk (Kd.R_lower ho0 (below_size (by repeat (first | (with_reducible first | exact HB.out | apply below_alloc | apply pw_below_drewN | apply below_drew1 | refine below_set ?_ GE101.out) | exact HB.out)))); have n1_ := Aside0.mk (blk_below (g := gb101) (o := .cells #[.string a0_0, .slice A0_1 l0_1.length c0_1, .slice (some ad104) l0_2.length c0_2] 27 (0, 0)) (by (with_reducible repeat (first | refine blk_drewN ?_ _ | refine blk_drew ?_ | refine blk_alloc ?_ _)); exact BK101.out) hb); have n2_ := Aside0.mk (below_step (by repeat (first | (with_reducible first | exact HB.out | apply below_alloc | apply pw_below_drewN | apply below_drew1 | refine below_set ?_ GE101.out) | exact HB.out)) hb); clear BK101; clear HB; have HO107 := n0_; have BK101 := n1_; have HB := n2_; clear n0_ n1_ n2_; (try clear hb); (try clear hb2); (try clear hk); (try clear hi); (try clear ho0)))
        go_ret
        exact ⟨by first | rfl | (simp [errW_none, errW_some] <;> rfl) | (simp [*, errW_none, errW_some] <;> rfl), by repeat (first | (with_reducible first | exact HB.out | apply below_alloc | apply pw_below_drewN | apply below_drew1 | refine below_set ?_ GE101.out) | exact HB.out)⟩
       ·replace c13 := Bool.eq_false_iff.mpr c13
        subst c13
        have H1 : (some false) = some r := by rw [if_neg (show ¬ (false = true) by decide)] at H; exact H
        clear H
        have H := H1
        clear H1
        obtain rfl := Option.some.inj H
        have hcz16_0 : wr.cell? ⟨gb101, 0, none⟩ = some (.string a0_0) := (blk_cell BK101.out 0).trans rfl
        have hcz16_1 : wr.cell? ⟨gb101, 1, none⟩ = some (.slice A0_1 l0_1.length c0_1) := (blk_cell BK101.out 1).trans rfl
        have hcz16_2 : wr.cell? ⟨gb101, 2, none⟩ = some (.slice A0_2 l0_2.length c0_2) := (blk_cell BK101.out 2).trans rfl
        have hfz16_0 := blk_frozen BK101.out 0
        have hfz16_1 := blk_frozen BK101.out 1
        have hfz16_2 := blk_frozen BK101.out 2
        have p104 : 0 ≤ (x4_1 : Int) := of_decide_eq_true (by first | (with_reducible assumption) | assumption)
        have q104 : x4_1 < (l0_2.length : Int) := of_decide_eq_true (by first | (with_reducible assumption) | assumption)
        obtain ⟨ad104, A104_2, c104_2, e104, hx104_0, hx104_1, hx104_2, hx104_3, hx104_4, hx104_5, hx104_6, hx104_7, hx104_8, hx104_9, hx104_10, hx104_11, hx104_12, hx104_13, hl104_2, hi104_2⟩ := at_T47 HR0_2.out x4_1 p104 q104
        cases e104
        replace hx104_0 := (HB.out.cell (blt_ hx104_0)).trans hx104_0
        replace hx104_1 := (HB.out.cell (blt_ hx104_1)).trans hx104_1
        replace hx104_2 := (HB.out.cell (blt_ hx104_2)).trans hx104_2
        replace hx104_3 := (HB.out.cell (blt_ hx104_3)).trans hx104_3
        replace hx104_4 := (HB.out.cell (blt_ hx104_4)).trans hx104_4
        replace hx104_5 := (HB.out.cell (blt_ hx104_5)).trans hx104_5
        replace hx104_6 := (HB.out.cell (blt_ hx104_6)).trans hx104_6
        replace hx104_7 := (HB.out.cell (blt_ hx104_7)).trans hx104_7
        replace hx104_8 := (HB.out.cell (blt_ hx104_8)).trans hx104_8
        replace hx104_9 := (HB.out.cell (blt_ hx104_9)).trans hx104_9
        replace hx104_10 := (HB.out.cell (blt_ hx104_10)).trans hx104_10
        replace hx104_11 := (HB.out.cell (blt_ hx104_11)).trans hx104_11
        replace hx104_12 := (HB.out.cell (blt_ hx104_12)).trans hx104_12
        replace hx104_13 := (HB.out.cell (blt_ hx104_13)).trans hx104_13
        have HR104_2 := Aside0.mk hi104_2
        have HC104_2 := Aside0.mk hl104_2
        clear hi104_2 hl104_2
        replace p104 := eq_true p104
        replace q104 := eq_true q104
        go_wp2_with (first | ((with_reducible refine gate_callee (f := 17) rfl ?_); refine goesL_ (some 46) rfl rfl Try.func17 (by kernel_rfl) rfl #[.agg #[.string a0_0, .slice A0_1 l0_1.length c0_1, .slice (some ad104) l0_2.length c0_2], .int .i64 (-1)] rfl (by (try simp only [List.map_toArray, List.map_cons, List.map_nil]); first | done | rfl | (simp only [List.length_drop, List.length_take]; rfl)) ?_; (with_reducible refine (plan_Order.calls a0_0 _ _ l0_1 _ _ l0_2 (-1) t105 t108 _ ?side1 ?side2 ?side3 ?side4 A12.out).mono ?_); (case side1 => repeat (first | exact (Kd.C_below HR0_1.out HB.out) | (with_reducible refine Kd.C_alloc ?_ _) | (with_reducible refine Kd.C_drewN ?_ _) | (with_reducible refine Kd.C_drew ?_))); (case side2 => exact HC0_1.out); (case side3 => repeat (first | exact (Kd.C_below HR0_2.out HB.out) | (with_reducible refine Kd.C_alloc ?_ _) | (with_reducible refine Kd.C_drewN ?_ _) | (with_reducible refine Kd.C_drew ?_))); (case side4 => exact HC0_2.out); rintro e w17 ⟨v106, rfl, ho0, hb⟩; refine ⟨_, rfl, ?_⟩; have n0_ := Aside0.mk (Kd.R_lower ho0 (below_size (by repeat (first | (with_reducible first | exact HB.out | apply below_alloc | apply pw_below_drewN | apply below_drew1 | refine below_set ?_ GE101.out) | exact HB.out)))); have n1_ := Aside0.mk (blk_below (g := gb101) (o := .cells #[.string a0_0, .slice A0_1 l0_1.length c0_1, .slice (some ad104) l0_2.length c0_2] 27 (0, 0)) (by (with_reducible repeat (first | refine blk_drewN ?_ _ | refine blk_drew ?_ | refine blk_alloc ?_ _)); exact BK101.out) hb); have n2_ := Aside0.mk (below_step (by repeat (first | (with_reducible first | exact HB.out | apply below_alloc | apply pw_below_drewN | apply below_drew1 | refine below_set ?_ GE101.out) | exact HB.out)) hb); clear BK101; clear HB; have HO107 := n0_; have BK101 := n1_; have HB := n2_; clear n0_ n1_ n2_; (try clear hb); (try clear hb2); (try clear hk); (try clear hi); (try clear ho0)))
        go_ret
        exact ⟨by first | rfl | (simp [errW_none, errW_some] <;> rfl) | (simp [*, errW_none, errW_some] <;> rfl), by repeat (first | (with_reducible first | exact HB.out | apply below_alloc | apply pw_below_drewN | apply below_drew1 | refine below_set ?_ GE101.out) | exact HB.out)⟩
      ·rw [if_neg c11] at H
       have c11b0 : decide (((rd_T47 l0_2 x4_1).kind) < 1) = false := decide_eq_false c11
       clear c11
       by_cases c18 : ((rd_T47 l0_2 x4_1).kind) > 3
       ·rw [if_pos c18] at H
        have c18b0 : decide (3 < ((rd_T47 l0_2 x4_1).kind)) = true := decide_eq_true c18
        clear c18
        replace H := Option.bind_eq_some_iff.mp H
        obtain ⟨⟨t110, t113⟩, A190, H⟩ := H
        replace H : (if t102 = true then (some (t113 == 1)) else (some false)) = some r := H
        have A19 := Aside0.mk A190
        clear A190
        by_cases c20 : t102 = true
        ·subst c20
         have H1 : (some (t113 == 1)) = some r := by rw [if_pos rfl] at H; exact H
         clear H
         have H := H1
         clear H1
         obtain rfl := Option.some.inj H
         have hcz21_0 : wr.cell? ⟨gb101, 0, none⟩ = some (.string a0_0) := (blk_cell BK101.out 0).trans rfl
         have hcz21_1 : wr.cell? ⟨gb101, 1, none⟩ = some (.slice A0_1 l0_1.length c0_1) := (blk_cell BK101.out 1).trans rfl
         have hcz21_2 : wr.cell? ⟨gb101, 2, none⟩ = some (.slice A0_2 l0_2.length c0_2) := (blk_cell BK101.out 2).trans rfl
         have hfz21_0 := blk_frozen BK101.out 0
         have hfz21_1 := blk_frozen BK101.out 1
         have hfz21_2 := blk_frozen BK101.out 2
         have p104 : 0 ≤ (x4_1 : Int) := of_decide_eq_true (by first | (with_reducible assumption) | assumption)
         have q104 : x4_1 < (l0_2.length : Int) := of_decide_eq_true (by first | (with_reducible assumption) | assumption)
         obtain ⟨ad104, A104_2, c104_2, e104, hx104_0, hx104_1, hx104_2, hx104_3, hx104_4, hx104_5, hx104_6, hx104_7, hx104_8, hx104_9, hx104_10, hx104_11, hx104_12, hx104_13, hl104_2, hi104_2⟩ := at_T47 HR0_2.out x4_1 p104 q104
         cases e104
         replace hx104_0 := (HB.out.cell (blt_ hx104_0)).trans hx104_0
         replace hx104_1 := (HB.out.cell (blt_ hx104_1)).trans hx104_1
         replace hx104_2 := (HB.out.cell (blt_ hx104_2)).trans hx104_2
         replace hx104_3 := (HB.out.cell (blt_ hx104_3)).trans hx104_3
         replace hx104_4 := (HB.out.cell (blt_ hx104_4)).trans hx104_4
         replace hx104_5 := (HB.out.cell (blt_ hx104_5)).trans hx104_5
         replace hx104_6 := (HB.out.cell (blt_ hx104_6)).trans hx104_6
         replace hx104_7 := (HB.out.cell (blt_ hx104_7)).trans hx104_7
         replace hx104_8 := (HB.out.cell (blt_ hx104_8)).trans hx104_8
         replace hx104_9 := (HB.out.cell (blt_ hx104_9)).trans hx104_9
         replace hx104_10 := (HB.out.cell (blt_ hx104_10)).trans hx104_10
         replace hx104_11 := (HB.out.cell (blt_ hx104_11)).trans hx104_11
         replace hx104_12 := (HB.out.cell (blt_ hx104_12)).trans hx104_12
         replace hx104_13 := (HB.out.cell (blt_ hx104_13)).trans hx104_13
         have HR104_2 := Aside0.mk hi104_2
         have HC104_2 := Aside0.mk hl104_2
         clear hi104_2 hl104_2
         replace p104 := eq_true p104
         replace q104 := eq_true q104
         have p109 : 0 ≤ (x4_1 : Int) := of_decide_eq_true (by first | (with_reducible assumption) | assumption)
         have q109 : x4_1 < (l0_2.length : Int) := of_decide_eq_true (by first | (with_reducible assumption) | assumption)
         obtain ⟨ad109, A109_2, c109_2, e109, hx109_0, hx109_1, hx109_2, hx109_3, hx109_4, hx109_5, hx109_6, hx109_7, hx109_8, hx109_9, hx109_10, hx109_11, hx109_12, hx109_13, hl109_2, hi109_2⟩ := at_T47 HR0_2.out x4_1 p109 q109
         obtain rfl : ad104 = ad109 := (by injection e109)
         replace hx109_0 := (HB.out.cell (blt_ hx109_0)).trans hx109_0
         replace hx109_1 := (HB.out.cell (blt_ hx109_1)).trans hx109_1
         replace hx109_2 := (HB.out.cell (blt_ hx109_2)).trans hx109_2
         replace hx109_3 := (HB.out.cell (blt_ hx109_3)).trans hx109_3
         replace hx109_4 := (HB.out.cell (blt_ hx109_4)).trans hx109_4
         replace hx109_5 := (HB.out.cell (blt_ hx109_5)).trans hx109_5
         replace hx109_6 := (HB.out.cell (blt_ hx109_6)).trans hx109_6
         replace hx109_7 := (HB.out.cell (blt_ hx109_7)).trans hx109_7
         replace hx109_8 := (HB.out.cell (blt_ hx109_8)).trans hx109_8
         replace hx109_9 := (HB.out.cell (blt_ hx109_9)).trans hx109_9
         replace hx109_10 := (HB.out.cell (blt_ hx109_10)).trans hx109_10
         replace hx109_11 := (HB.out.cell (blt_ hx109_11)).trans hx109_11
         replace hx109_12 := (HB.out.cell (blt_ hx109_12)).trans hx109_12
         replace hx109_13 := (HB.out.cell (blt_ hx109_13)).trans hx109_13
         have HR109_2 := Aside0.mk hi109_2
         have HC109_2 := Aside0.mk hl109_2
         clear hi109_2 hl109_2
         replace p109 := eq_true p109
         replace q109 := eq_true q109
         have ea_ := Option.some.inj (hx104_2.symm.trans hx109_2)
         injection ea_ with ea_ en_ ec_
         subst ea_
         subst ec_
         clear en_
         go_wp2_with (first | ((with_reducible refine gate_callee (f := 17) rfl ?_); refine goesL_ (some 46) rfl rfl Try.func17 (by kernel_rfl) rfl #[.agg #[.string a0_0, .slice A0_1 l0_1.length c0_1, .slice (some ad104) l0_2.length c0_2], .int .i64 (-1)] rfl (by (try simp only [List.map_toArray, List.map_cons, List.map_nil]); first | done | rfl | (simp only [List.length_drop, List.length_take]; rfl)) ?_; (with_reducible refine (plan_Order.calls a0_0 _ _ l0_1 _ _ l0_2 (-1) t110 t113 _ ?side1 ?side2 ?side3 ?side4 A19.out).mono ?_); (case side1 => repeat (first | exact (Kd.C_below HR0_1.out HB.out) | (with_reducible refine Kd.C_alloc ?_ _) | (with_reducible refine Kd.C_drewN ?_ _) | (with_reducible refine Kd.C_drew ?_))); (case side2 => exact HC0_1.out); (case side3 => repeat (first | exact (Kd.C_below HR0_2.out HB.out) | (with_reducible refine Kd.C_alloc ?_ _) | (with_reducible refine Kd.C_drewN ?_ _) | (with_reducible refine Kd.C_drew ?_))); (case side4 => exact HC0_2.out); rintro e w22 ⟨v111, rfl, ho0, hb⟩; refine ⟨_, rfl, ?_⟩; have n0_ := Aside0.mk (Kd.R_lower ho0 (below_size (by repeat (first | (with_reducible first | exact HB.out | apply below_alloc | apply pw_below_drewN | apply below_drew1 | refine below_set ?_ GE101.out) | exact HB.out)))); have n1_ := Aside0.mk (blk_below (g := gb101) (o := .cells #[.string a0_0, .slice A0_1 l0_1.length c0_1, .slice (some ad104) l0_2.length c0_2] 27 (0, 0)) (by (with_reducible repeat (first | refine blk_drewN ?_ _ | refine blk_drew ?_ | refine blk_alloc ?_ _)); exact BK101.out) hb); have n2_ := Aside0.mk (below_step (by repeat (first | (with_reducible first | exact HB.out | apply below_alloc | apply pw_below_drewN | apply below_drew1 | refine below_set ?_ GE101.out) | exact HB.out)) hb); clear BK101; clear HB; have HO112 := n0_; have BK101 := n1_; have HB := n2_; clear n0_ n1_ n2_; (try clear hb); (try clear hb2); (try clear hk); (try clear hi); (try clear ho0)))
         go_ret
         exact ⟨by first | rfl | (simp [errW_none, errW_some] <;> rfl) | (simp [*, errW_none, errW_some] <;> rfl), by repeat (first | (with_reducible first | exact HB.out | apply below_alloc | apply pw_below_drewN | apply below_drew1 | refine below_set ?_ GE101.out) | exact HB.out)⟩
        ·replace c20 := Bool.eq_false_iff.mpr c20
         subst c20
         have H1 : (some false) = some r := by rw [if_neg (show ¬ (false = true) by decide)] at H; exact H
         clear H
         have H := H1
         clear H1
         obtain rfl := Option.some.inj H
         have hcz23_0 : wr.cell? ⟨gb101, 0, none⟩ = some (.string a0_0) := (blk_cell BK101.out 0).trans rfl
         have hcz23_1 : wr.cell? ⟨gb101, 1, none⟩ = some (.slice A0_1 l0_1.length c0_1) := (blk_cell BK101.out 1).trans rfl
         have hcz23_2 : wr.cell? ⟨gb101, 2, none⟩ = some (.slice A0_2 l0_2.length c0_2) := (blk_cell BK101.out 2).trans rfl
         have hfz23_0 := blk_frozen BK101.out 0
         have hfz23_1 := blk_frozen BK101.out 1
         have hfz23_2 := blk_frozen BK101.out 2
         have p104 : 0 ≤ (x4_1 : Int) := of_decide_eq_true (by first | (with_reducible assumption) | assumption)
         have q104 : x4_1 < (l0_2.length : Int) := of_decide_eq_true (by first | (with_reducible assumption) | assumption)
         obtain ⟨ad104, A104_2, c104_2, e104, hx104_0, hx104_1, hx104_2, hx104_3, hx104_4, hx104_5, hx104_6, hx104_7, hx104_8, hx104_9, hx104_10, hx104_11, hx104_12, hx104_13, hl104_2, hi104_2⟩ := at_T47 HR0_2.out x4_1 p104 q104
         cases e104
         replace hx104_0 := (HB.out.cell (blt_ hx104_0)).trans hx104_0
         replace hx104_1 := (HB.out.cell (blt_ hx104_1)).trans hx104_1
         replace hx104_2 := (HB.out.cell (blt_ hx104_2)).trans hx104_2
         replace hx104_3 := (HB.out.cell (blt_ hx104_3)).trans hx104_3
         replace hx104_4 := (HB.out.cell (blt_ hx104_4)).trans hx104_4
         replace hx104_5 := (HB.out.cell (blt_ hx104_5)).trans hx104_5
         replace hx104_6 := (HB.out.cell (blt_ hx104_6)).trans hx104_6
         replace hx104_7 := (HB.out.cell (blt_ hx104_7)).trans hx104_7
         replace hx104_8 := (HB.out.cell (blt_ hx104_8)).trans hx104_8
         replace hx104_9 := (HB.out.cell (blt_ hx104_9)).trans hx104_9
         replace hx104_10 := (HB.out.cell (blt_ hx104_10)).trans hx104_10
         replace hx104_11 := (HB.out.cell (blt_ hx104_11)).trans hx104_11
         replace hx104_12 := (HB.out.cell (blt_ hx104_12)).trans hx104_12
         replace hx104_13 := (HB.out.cell (blt_ hx104_13)).trans hx104_13
         have HR104_2 := Aside0.mk hi104_2
         have HC104_2 := Aside0.mk hl104_2
         clear hi104_2 hl104_2
         replace p104 := eq_true p104
         replace q104 := eq_true q104
         have p109 : 0 ≤ (x4_1 : Int) := of_decide_eq_true (by first | (with_reducible assumption) | assumption)
         have q109 : x4_1 < (l0_2.length : Int) := of_decide_eq_true (by first | (with_reducible assumption) | assumption)
         obtain ⟨ad109, A109_2, c109_2, e109, hx109_0, hx109_1, hx109_2, hx109_3, hx109_4, hx109_5, hx109_6, hx109_7, hx109_8, hx109_9, hx109_10, hx109_11, hx109_12, hx109_13, hl109_2, hi109_2⟩ := at_T47 HR0_2.out x4_1 p109 q109
         obtain rfl : ad104 = ad109 := (by injection e109)
         replace hx109_0 := (HB.out.cell (blt_ hx109_0)).trans hx109_0
         replace hx109_1 := (HB.out.cell (blt_ hx109_1)).trans hx109_1
         replace hx109_2 := (HB.out.cell (blt_ hx109_2)).trans hx109_2
         replace hx109_3 := (HB.out.cell (blt_ hx109_3)).trans hx109_3
         replace hx109_4 := (HB.out.cell (blt_ hx109_4)).trans hx109_4
         replace hx109_5 := (HB.out.cell (blt_ hx109_5)).trans hx109_5
         replace hx109_6 := (HB.out.cell (blt_ hx109_6)).trans hx109_6
         replace hx109_7 := (HB.out.cell (blt_ hx109_7)).trans hx109_7
         replace hx109_8 := (HB.out.cell (blt_ hx109_8)).trans hx109_8
         replace hx109_9 := (HB.out.cell (blt_ hx109_9)).trans hx109_9
         replace hx109_10 := (HB.out.cell (blt_ hx109_10)).trans hx109_10
         replace hx109_11 := (HB.out.cell (blt_ hx109_11)).trans hx109_11
         replace hx109_12 := (HB.out.cell (blt_ hx109_12)).trans hx109_12
         replace hx109_13 := (HB.out.cell (blt_ hx109_13)).trans hx109_13
         have HR109_2 := Aside0.mk hi109_2
         have HC109_2 := Aside0.mk hl109_2
         clear hi109_2 hl109_2
         replace p109 := eq_true p109
         replace q109 := eq_true q109
         have ea_ := Option.some.inj (hx104_2.symm.trans hx109_2)
         injection ea_ with ea_ en_ ec_
         subst ea_
         subst ec_
         clear en_
         go_wp2_with (first | ((with_reducible refine gate_callee (f := 17) rfl ?_); refine goesL_ (some 46) rfl rfl Try.func17 (by kernel_rfl) rfl #[.agg #[.string a0_0, .slice A0_1 l0_1.length c0_1, .slice (some ad104) l0_2.length c0_2], .int .i64 (-1)] rfl (by (try simp only [List.map_toArray, List.map_cons, List.map_nil]); first | done | rfl | (simp only [List.length_drop, List.length_take]; rfl)) ?_; (with_reducible refine (plan_Order.calls a0_0 _ _ l0_1 _ _ l0_2 (-1) t110 t113 _ ?side1 ?side2 ?side3 ?side4 A19.out).mono ?_); (case side1 => repeat (first | exact (Kd.C_below HR0_1.out HB.out) | (with_reducible refine Kd.C_alloc ?_ _) | (with_reducible refine Kd.C_drewN ?_ _) | (with_reducible refine Kd.C_drew ?_))); (case side2 => exact HC0_1.out); (case side3 => repeat (first | exact (Kd.C_below HR0_2.out HB.out) | (with_reducible refine Kd.C_alloc ?_ _) | (with_reducible refine Kd.C_drewN ?_ _) | (with_reducible refine Kd.C_drew ?_))); (case side4 => exact HC0_2.out); rintro e w24 ⟨v111, rfl, ho0, hb⟩; refine ⟨_, rfl, ?_⟩; have n0_ := Aside0.mk (Kd.R_lower ho0 (below_size (by repeat (first | (with_reducible first | exact HB.out | apply below_alloc | apply pw_below_drewN | apply below_drew1 | refine below_set ?_ GE101.out) | exact HB.out)))); have n1_ := Aside0.mk (blk_below (g := gb101) (o := .cells #[.string a0_0, .slice A0_1 l0_1.length c0_1, .slice (some ad104) l0_2.length c0_2] 27 (0, 0)) (by (with_reducible repeat (first | refine blk_drewN ?_ _ | refine blk_drew ?_ | refine blk_alloc ?_ _)); exact BK101.out) hb); have n2_ := Aside0.mk (below_step (by repeat (first | (with_reducible first | exact HB.out | apply below_alloc | apply pw_below_drewN | apply below_drew1 | refine below_set ?_ GE101.out) | exact HB.out)) hb); clear BK101; clear HB; have HO112 := n0_; have BK101 := n1_; have HB := n2_; clear n0_ n1_ n2_; (try clear hb); (try clear hb2); (try clear hk); (try clear hi); (try clear ho0)))
         go_ret
         exact ⟨by first | rfl | (simp [errW_none, errW_some] <;> rfl) | (simp [*, errW_none, errW_some] <;> rfl), by repeat (first | (with_reducible first | exact HB.out | apply below_alloc | apply pw_below_drewN | apply below_drew1 | refine below_set ?_ GE101.out) | exact HB.out)⟩
       ·rw [if_neg c18] at H
        have c18b0 : decide (3 < ((rd_T47 l0_2 x4_1).kind)) = false := decide_eq_false c18
        clear c18
        have H' := Aside0.mk H
        clear H
        have hcz25_0 : wr.cell? ⟨gb101, 0, none⟩ = some (.string a0_0) := (blk_cell BK101.out 0).trans rfl
        have hcz25_1 : wr.cell? ⟨gb101, 1, none⟩ = some (.slice A0_1 l0_1.length c0_1) := (blk_cell BK101.out 1).trans rfl
        have hcz25_2 : wr.cell? ⟨gb101, 2, none⟩ = some (.slice A0_2 l0_2.length c0_2) := (blk_cell BK101.out 2).trans rfl
        have hfz25_0 := blk_frozen BK101.out 0
        have hfz25_1 := blk_frozen BK101.out 1
        have hfz25_2 := blk_frozen BK101.out 2
        have p104 : 0 ≤ (x4_1 : Int) := of_decide_eq_true (by first | (with_reducible assumption) | assumption)
        have q104 : x4_1 < (l0_2.length : Int) := of_decide_eq_true (by first | (with_reducible assumption) | assumption)
        obtain ⟨ad104, A104_2, c104_2, e104, hx104_0, hx104_1, hx104_2, hx104_3, hx104_4, hx104_5, hx104_6, hx104_7, hx104_8, hx104_9, hx104_10, hx104_11, hx104_12, hx104_13, hl104_2, hi104_2⟩ := at_T47 HR0_2.out x4_1 p104 q104
        cases e104
        replace hx104_0 := (HB.out.cell (blt_ hx104_0)).trans hx104_0
        replace hx104_1 := (HB.out.cell (blt_ hx104_1)).trans hx104_1
        replace hx104_2 := (HB.out.cell (blt_ hx104_2)).trans hx104_2
        replace hx104_3 := (HB.out.cell (blt_ hx104_3)).trans hx104_3
        replace hx104_4 := (HB.out.cell (blt_ hx104_4)).trans hx104_4
        replace hx104_5 := (HB.out.cell (blt_ hx104_5)).trans hx104_5
        replace hx104_6 := (HB.out.cell (blt_ hx104_6)).trans hx104_6
        replace hx104_7 := (HB.out.cell (blt_ hx104_7)).trans hx104_7
        replace hx104_8 := (HB.out.cell (blt_ hx104_8)).trans hx104_8
        replace hx104_9 := (HB.out.cell (blt_ hx104_9)).trans hx104_9
        replace hx104_10 := (HB.out.cell (blt_ hx104_10)).trans hx104_10
        replace hx104_11 := (HB.out.cell (blt_ hx104_11)).trans hx104_11
        replace hx104_12 := (HB.out.cell (blt_ hx104_12)).trans hx104_12
        replace hx104_13 := (HB.out.cell (blt_ hx104_13)).trans hx104_13
        have HR104_2 := Aside0.mk hi104_2
        have HC104_2 := Aside0.mk hl104_2
        clear hi104_2 hl104_2
        replace p104 := eq_true p104
        replace q104 := eq_true q104
        have p109 : 0 ≤ (x4_1 : Int) := of_decide_eq_true (by first | (with_reducible assumption) | assumption)
        have q109 : x4_1 < (l0_2.length : Int) := of_decide_eq_true (by first | (with_reducible assumption) | assumption)
        obtain ⟨ad109, A109_2, c109_2, e109, hx109_0, hx109_1, hx109_2, hx109_3, hx109_4, hx109_5, hx109_6, hx109_7, hx109_8, hx109_9, hx109_10, hx109_11, hx109_12, hx109_13, hl109_2, hi109_2⟩ := at_T47 HR0_2.out x4_1 p109 q109
        obtain rfl : ad104 = ad109 := (by injection e109)
        replace hx109_0 := (HB.out.cell (blt_ hx109_0)).trans hx109_0
        replace hx109_1 := (HB.out.cell (blt_ hx109_1)).trans hx109_1
        replace hx109_2 := (HB.out.cell (blt_ hx109_2)).trans hx109_2
        replace hx109_3 := (HB.out.cell (blt_ hx109_3)).trans hx109_3
        replace hx109_4 := (HB.out.cell (blt_ hx109_4)).trans hx109_4
        replace hx109_5 := (HB.out.cell (blt_ hx109_5)).trans hx109_5
        replace hx109_6 := (HB.out.cell (blt_ hx109_6)).trans hx109_6
        replace hx109_7 := (HB.out.cell (blt_ hx109_7)).trans hx109_7
        replace hx109_8 := (HB.out.cell (blt_ hx109_8)).trans hx109_8
        replace hx109_9 := (HB.out.cell (blt_ hx109_9)).trans hx109_9
        replace hx109_10 := (HB.out.cell (blt_ hx109_10)).trans hx109_10
        replace hx109_11 := (HB.out.cell (blt_ hx109_11)).trans hx109_11
        replace hx109_12 := (HB.out.cell (blt_ hx109_12)).trans hx109_12
        replace hx109_13 := (HB.out.cell (blt_ hx109_13)).trans hx109_13
        have HR109_2 := Aside0.mk hi109_2
        have HC109_2 := Aside0.mk hl109_2
        clear hi109_2 hl109_2
        replace p109 := eq_true p109
        replace q109 := eq_true q109
        have ea_ := Option.some.inj (hx104_2.symm.trans hx109_2)
        injection ea_ with ea_ en_ ec_
        subst ea_
        subst ec_
        clear en_
        go_wp2
        go_roundg k1
        case measure => have := HK1.out; omega
        case rel => exact ⟨(wrap64 (x4_1 + 1)), (by first | rfl | (simp; done) | (simp [*]; done)), H', ⟨by have := HK1.out; omega⟩, ⟨by (with_reducible repeat (first | refine blk_drewN ?_ _ | refine blk_drew ?_ | refine blk_alloc ?_ _)); exact BK101.out⟩, ⟨by repeat (first | (with_reducible first | exact HB.out | apply below_alloc | apply pw_below_drewN | apply below_drew1 | refine below_set ?_ GE101.out) | exact HB.out)⟩⟩
     ·rw [if_neg c10] at H
      exact absurd H (by simp)
    ·rw [if_neg c9] at H
     have c9b0 : decide (x4_1 < (l0_2.length : Int)) = false := decide_eq_false c9
     clear c9
     replace H := Option.bind_eq_some_iff.mp H
     obtain ⟨⟨t114, t115, t116⟩, A260, H⟩ := H
     replace H : ((plan_Order.f a0_0 l0_1 l0_2 (-1)).bind fun bt117 => (lambrequinlaw13_PlanSafe.l1 k1 t102 t116 bt117.2 0 a0_0 l0_1 l0_2)) = some r := H
     have A26 := Aside0.mk A260
     clear A260
     replace H := Option.bind_eq_some_iff.mp H
     obtain ⟨⟨t117, t120⟩, A270, H⟩ := H
     replace H : (lambrequinlaw13_PlanSafe.l1 k1 t102 t116 t120 0 a0_0 l0_1 l0_2) = some r := H
     have A27 := Aside0.mk A270
     clear A270
     have H' := Aside0.mk H
     clear H
     have hcz28_0 : wr.cell? ⟨gb101, 0, none⟩ = some (.string a0_0) := (blk_cell BK101.out 0).trans rfl
     have hcz28_1 : wr.cell? ⟨gb101, 1, none⟩ = some (.slice A0_1 l0_1.length c0_1) := (blk_cell BK101.out 1).trans rfl
     have hcz28_2 : wr.cell? ⟨gb101, 2, none⟩ = some (.slice A0_2 l0_2.length c0_2) := (blk_cell BK101.out 2).trans rfl
     have hfz28_0 := blk_frozen BK101.out 0
     have hfz28_1 := blk_frozen BK101.out 1
     have hfz28_2 := blk_frozen BK101.out 2
     go_wp2_with (first | ((with_reducible refine gate_callee (f := 28) rfl ?_); refine goesL_ (some 58) rfl rfl Try.func28 (by kernel_rfl) rfl #[.agg #[.string (⟨#[]⟩ : ByteArray), .slice none 0 0, .slice A0_2 l0_2.length c0_2]] rfl (by (try simp only [List.map_toArray, List.map_cons, List.map_nil]); first | done | rfl | (simp only [List.length_drop, List.length_take]; rfl)) ?_; (refine (safe_Check.calls k1 (⟨#[]⟩ : ByteArray) _ _ ([] : List (Term)) _ _ l0_2 t114 t115 t116 _ ?side1 ?side2 ?side3 ?side4 A26.out).mono ?_); (case side1 => exact Kd.C_nil _ _); (case side2 => exact Nat.le_refl _); (case side3 => repeat (first | exact (Kd.C_below HR0_2.out HB.out) | (with_reducible refine Kd.C_alloc ?_ _) | (with_reducible refine Kd.C_drewN ?_ _) | (with_reducible refine Kd.C_drew ?_))); (case side4 => exact HC0_2.out); rintro e w29 ⟨rfl, hb⟩; refine ⟨_, rfl, ?_⟩; have n0_ := Aside0.mk (blk_below (g := gb101) (o := .cells #[.string a0_0, .slice A0_1 l0_1.length c0_1, .slice A0_2 l0_2.length c0_2] 27 (0, 0)) (by (with_reducible repeat (first | refine blk_drewN ?_ _ | refine blk_drew ?_ | refine blk_alloc ?_ _)); exact BK101.out) hb); have n1_ := Aside0.mk (below_step (by repeat (first | (with_reducible first | exact HB.out | apply below_alloc | apply pw_below_drewN | apply below_drew1 | refine below_set ?_ GE101.out) | exact HB.out)) hb); clear BK101; clear HB; have BK101 := n0_; have HB := n1_; clear n0_ n1_; (try clear hb); (try clear hb2); (try clear hk); (try clear hi); have hcz30_0 : w29.cell? ⟨gb101, 0, none⟩ = some (.string a0_0) := (blk_cell BK101.out 0).trans rfl; have hcz30_1 : w29.cell? ⟨gb101, 1, none⟩ = some (.slice A0_1 l0_1.length c0_1) := (blk_cell BK101.out 1).trans rfl; have hcz30_2 : w29.cell? ⟨gb101, 2, none⟩ = some (.slice A0_2 l0_2.length c0_2) := (blk_cell BK101.out 2).trans rfl; have hfz30_0 := blk_frozen BK101.out 0; have hfz30_1 := blk_frozen BK101.out 1; have hfz30_2 := blk_frozen BK101.out 2) | ((with_reducible refine gate_callee (f := 17) rfl ?_); refine goesL_ (some 64) rfl rfl Try.func17 (by kernel_rfl) rfl #[.agg #[.string a0_0, .slice A0_1 l0_1.length c0_1, .slice A0_2 l0_2.length c0_2], .int .i64 (-1)] rfl (by (try simp only [List.map_toArray, List.map_cons, List.map_nil]); first | done | rfl | (simp only [List.length_drop, List.length_take]; rfl)) ?_; (with_reducible refine (plan_Order.calls a0_0 _ _ l0_1 _ _ l0_2 (-1) t117 t120 _ ?side1 ?side2 ?side3 ?side4 A27.out).mono ?_); (case side1 => repeat (first | exact (Kd.C_below HR0_1.out HB.out) | (with_reducible refine Kd.C_alloc ?_ _) | (with_reducible refine Kd.C_drewN ?_ _) | (with_reducible refine Kd.C_drew ?_))); (case side2 => exact HC0_1.out); (case side3 => repeat (first | exact (Kd.C_below HR0_2.out HB.out) | (with_reducible refine Kd.C_alloc ?_ _) | (with_reducible refine Kd.C_drewN ?_ _) | (with_reducible refine Kd.C_drew ?_))); (case side4 => exact HC0_2.out); rintro e w31 ⟨v118, rfl, ho0, hb⟩; refine ⟨_, rfl, ?_⟩; have n0_ := Aside0.mk (Kd.R_lower ho0 (below_size (by repeat (first | (with_reducible first | exact HB.out | apply below_alloc | apply pw_below_drewN | apply below_drew1 | refine below_set ?_ GE101.out) | exact HB.out)))); have n1_ := Aside0.mk (blk_below (g := gb101) (o := .cells #[.string a0_0, .slice A0_1 l0_1.length c0_1, .slice A0_2 l0_2.length c0_2] 27 (0, 0)) (by (with_reducible repeat (first | refine blk_drewN ?_ _ | refine blk_drew ?_ | refine blk_alloc ?_ _)); exact BK101.out) hb); have n2_ := Aside0.mk (below_step (by repeat (first | (with_reducible first | exact HB.out | apply below_alloc | apply pw_below_drewN | apply below_drew1 | refine below_set ?_ GE101.out) | exact HB.out)) hb); clear BK101; clear HB; have HO119 := n0_; have BK101 := n1_; have HB := n2_; clear n0_ n1_ n2_; (try clear hb); (try clear hb2); (try clear hk); (try clear hi); (try clear ho0)))
     go_loopg [12] k1 (fun kq v12 w' => ∃ (x12_2 : Int), v12 = .int .i64 x12_2 ∧ Aside0 (lambrequinlaw13_PlanSafe.l1 kq t102 t116 t120 x12_2 a0_0 l0_1 l0_2 = some r) ∧ Aside0 (kq ≤ k1) ∧ Aside0 (w'.heap[gb101]? = some (.cells #[.string a0_0, (.slice A0_1 l0_1.length c0_1), (.slice A0_2 l0_2.length c0_2)] 27 (0, 0))) ∧ Aside0 (Below w.heap.size w w'))
     case atStart => exact ⟨(0), (by first | rfl | (simp; done) | (simp [*]; done)), H', ⟨Nat.le_refl _⟩, ⟨by (with_reducible repeat (first | refine blk_drewN ?_ _ | refine blk_drew ?_ | refine blk_alloc ?_ _)); exact BK101.out⟩, ⟨by repeat (first | (with_reducible first | exact HB.out | apply below_alloc | apply pw_below_drewN | apply below_drew1 | refine below_set ?_ GE101.out) | exact HB.out)⟩⟩
     case round =>
      clear H'
      try clear c1
      try clear p1
      try clear q1
      try clear hx1
      try clear c2
      try clear p2
      try clear c4
      try clear p6
      try clear c9
      try clear c9b0
      try clear c10
      try clear c10b0
      try clear p10
      try clear q10
      try clear hx10
      try clear c11
      try clear c11b0
      try clear c13
      try clear c14
      try clear c15
      try clear c16
      try clear c17
      try clear c18
      try clear c18b0
      try clear c20
      try clear c28
      try clear hcz14_0
      try clear hcz14_1
      try clear hcz14_2
      try clear hcz16_0
      try clear hcz16_1
      try clear hcz16_2
      try clear hcz21_0
      try clear hcz21_1
      try clear hcz21_2
      try clear hcz23_0
      try clear hcz23_1
      try clear hcz23_2
      try clear hcz25_0
      try clear hcz25_1
      try clear hcz25_2
      try clear hcz28_0
      try clear hcz28_1
      try clear hcz28_2
      try clear hcz30_0
      try clear hcz30_1
      try clear hcz30_2
      try clear hcz7_0
      try clear hcz7_1
      try clear hcz7_2
      try clear hfz14_0
      try clear hfz14_1
      try clear hfz14_2
      try clear hfz16_0
      try clear hfz16_1
      try clear hfz16_2
      try clear hfz21_0
      try clear hfz21_1
      try clear hfz21_2
      try clear hfz23_0
      try clear hfz23_1
      try clear hfz23_2
      try clear hfz25_0
      try clear hfz25_1
      try clear hfz25_2
      try clear hfz28_0
      try clear hfz28_1
      try clear hfz28_2
      try clear hfz30_0
      try clear hfz30_1
      try clear hfz30_2
      try clear hfz7_0
      try clear hfz7_1
      try clear hfz7_2
      try clear hx104_0
      try clear hx104_1
      try clear hx104_10
      try clear hx104_11
      try clear hx104_12
      try clear hx104_13
      try clear hx104_2
      try clear hx104_3
      try clear hx104_4
      try clear hx104_5
      try clear hx104_6
      try clear hx104_7
      try clear hx104_8
      try clear hx104_9
      try clear hx109_0
      try clear hx109_1
      try clear hx109_10
      try clear hx109_11
      try clear hx109_12
      try clear hx109_13
      try clear hx109_2
      try clear hx109_3
      try clear hx109_4
      try clear hx109_5
      try clear hx109_6
      try clear hx109_7
      try clear hx109_8
      try clear hx109_9
      try clear p104
      try clear p109
      try clear p2
      try clear q104
      try clear q109
      obtain ⟨x12_2, rfl, HA, HK2, BK101, HB⟩ := hrel
      cases gk with
      | zero => exact absurd HA.out (by simp [lambrequinlaw13_PlanSafe.l1])
      | succ k2 =>
       have H := HA.out
       clear HA
       simp only [lambrequinlaw13_PlanSafe.l1] at H
       by_cases c32 : x12_2 < (l0_2.length : Int)
       ·rw [if_pos c32] at H
        have c32b0 : decide (x12_2 < (l0_2.length : Int)) = true := decide_eq_true c32
        clear c32
        replace H := Option.bind_eq_some_iff.mp H
        obtain ⟨⟨t121, t124⟩, A330, H⟩ := H
        replace H : (if 0 ≤ x12_2 then (if ((rd_T47 l0_2 x12_2).kind) = 1 then (if t124 = t116 then (lambrequinlaw13_PlanSafe.l1 k2 t102 t116 t120 (wrap64 (x12_2 + 1)) a0_0 l0_1 l0_2) else (some false)) else (if t124 = 1 then (lambrequinlaw13_PlanSafe.l1 k2 t102 t116 t120 (wrap64 (x12_2 + 1)) a0_0 l0_1 l0_2) else (some false))) else (none)) = some r := H
        have A33 := Aside0.mk A330
        clear A330
        by_cases c34 : 0 ≤ x12_2
        ·rw [if_pos c34] at H
         have c34b0 : decide (0 ≤ x12_2) = true := decide_eq_true c34
         clear c34
         by_cases c35 : ((rd_T47 l0_2 x12_2).kind) = 1
         ·rw [if_pos c35] at H
          have c35b0 : (((rd_T47 l0_2 x12_2).kind) == 1) = true := beq_iff_eq.mpr c35
          have c35b1 : (((rd_T47 l0_2 x12_2).kind) != 1) = false := bne_eq_false_iff_eq.mpr c35
          clear c35
          by_cases c36 : t124 = t116
          ·rw [if_pos c36] at H
           have c36b0 : (t124 == t116) = true := beq_iff_eq.mpr c36
           have c36b1 : (t124 != t116) = false := bne_eq_false_iff_eq.mpr c36
           clear c36
           have H' := Aside0.mk H
           clear H
           have hcz37_0 : wr.cell? ⟨gb101, 0, none⟩ = some (.string a0_0) := (blk_cell BK101.out 0).trans rfl
           have hcz37_1 : wr.cell? ⟨gb101, 1, none⟩ = some (.slice A0_1 l0_1.length c0_1) := (blk_cell BK101.out 1).trans rfl
           have hcz37_2 : wr.cell? ⟨gb101, 2, none⟩ = some (.slice A0_2 l0_2.length c0_2) := (blk_cell BK101.out 2).trans rfl
           have hfz37_0 := blk_frozen BK101.out 0
           have hfz37_1 := blk_frozen BK101.out 1
           have hfz37_2 := blk_frozen BK101.out 2
           go_wp2_with (first | ((with_reducible refine gate_callee (f := 17) rfl ?_); refine goesL_ (some 77) rfl rfl Try.func17 (by kernel_rfl) rfl #[.agg #[.string a0_0, .slice A0_1 l0_1.length c0_1, .slice A0_2 l0_2.length c0_2], .int .i64 x12_2] rfl (by (try simp only [List.map_toArray, List.map_cons, List.map_nil]); first | done | rfl | (simp only [List.length_drop, List.length_take]; rfl)) ?_; (with_reducible refine (plan_Order.calls a0_0 _ _ l0_1 _ _ l0_2 x12_2 t121 t124 _ ?side1 ?side2 ?side3 ?side4 A33.out).mono ?_); (case side1 => repeat (first | exact (Kd.C_below HR0_1.out HB.out) | (with_reducible refine Kd.C_alloc ?_ _) | (with_reducible refine Kd.C_drewN ?_ _) | (with_reducible refine Kd.C_drew ?_))); (case side2 => exact HC0_1.out); (case side3 => repeat (first | exact (Kd.C_below HR0_2.out HB.out) | (with_reducible refine Kd.C_alloc ?_ _) | (with_reducible refine Kd.C_drewN ?_ _) | (with_reducible refine Kd.C_drew ?_))); (case side4 => exact HC0_2.out); rintro e w38 ⟨v122, rfl, ho0, hb⟩; refine ⟨_, rfl, ?_⟩; have n0_ := Aside0.mk (Kd.R_lower ho0 (below_size (by repeat (first | (with_reducible first | exact HB.out | apply below_alloc | apply pw_below_drewN | apply below_drew1 | refine below_set ?_ GE101.out) | exact HB.out)))); have n1_ := Aside0.mk (blk_below (g := gb101) (o := .cells #[.string a0_0, .slice A0_1 l0_1.length c0_1, .slice A0_2 l0_2.length c0_2] 27 (0, 0)) (by (with_reducible repeat (first | refine blk_drewN ?_ _ | refine blk_drew ?_ | refine blk_alloc ?_ _)); exact BK101.out) hb); have n2_ := Aside0.mk (below_step (by repeat (first | (with_reducible first | exact HB.out | apply below_alloc | apply pw_below_drewN | apply below_drew1 | refine below_set ?_ GE101.out) | exact HB.out)) hb); clear BK101; clear HB; have HO123 := n0_; have BK101 := n1_; have HB := n2_; clear n0_ n1_ n2_; (try clear hb); (try clear hb2); (try clear hk); (try clear hi); (try clear ho0); have hcz39_0 : w38.cell? ⟨gb101, 0, none⟩ = some (.string a0_0) := (blk_cell BK101.out 0).trans rfl; have hcz39_1 : w38.cell? ⟨gb101, 1, none⟩ = some (.slice A0_1 l0_1.length c0_1) := (blk_cell BK101.out 1).trans rfl; have hcz39_2 : w38.cell? ⟨gb101, 2, none⟩ = some (.slice A0_2 l0_2.length c0_2) := (blk_cell BK101.out 2).trans rfl; have hfz39_0 := blk_frozen BK101.out 0; have hfz39_1 := blk_frozen BK101.out 1; have hfz39_2 := blk_frozen BK101.out 2; have p125 : 0 ≤ (x12_2 : Int) := of_decide_eq_true (by first | (with_reducible assumption) | assumption); have q125 : x12_2 < (l0_2.length : Int) := of_decide_eq_true (by first | (with_reducible assumption) | assumption); obtain ⟨ad125, A125_2, c125_2, e125, hx125_0, hx125_1, hx125_2, hx125_3, hx125_4, hx125_5, hx125_6, hx125_7, hx125_8, hx125_9, hx125_10, hx125_11, hx125_12, hx125_13, hl125_2, hi125_2⟩ := at_T47 HR0_2.out x12_2 p125 q125; cases e125; replace hx125_0 := (HB.out.cell (blt_ hx125_0)).trans hx125_0; replace hx125_1 := (HB.out.cell (blt_ hx125_1)).trans hx125_1; replace hx125_2 := (HB.out.cell (blt_ hx125_2)).trans hx125_2; replace hx125_3 := (HB.out.cell (blt_ hx125_3)).trans hx125_3; replace hx125_4 := (HB.out.cell (blt_ hx125_4)).trans hx125_4; replace hx125_5 := (HB.out.cell (blt_ hx125_5)).trans hx125_5; replace hx125_6 := (HB.out.cell (blt_ hx125_6)).trans hx125_6; replace hx125_7 := (HB.out.cell (blt_ hx125_7)).trans hx125_7; replace hx125_8 := (HB.out.cell (blt_ hx125_8)).trans hx125_8; replace hx125_9 := (HB.out.cell (blt_ hx125_9)).trans hx125_9; replace hx125_10 := (HB.out.cell (blt_ hx125_10)).trans hx125_10; replace hx125_11 := (HB.out.cell (blt_ hx125_11)).trans hx125_11; replace hx125_12 := (HB.out.cell (blt_ hx125_12)).trans hx125_12; replace hx125_13 := (HB.out.cell (blt_ hx125_13)).trans hx125_13; have HR125_2 := Aside0.mk hi125_2; have HC125_2 := Aside0.mk hl125_2; clear hi125_2 hl125_2; replace p125 := eq_true p125; replace q125 := eq_true q125))
           go_roundg k2
           case measure => have := HK1.out; have := HK2.out; omega
           case rel => exact ⟨(wrap64 (x12_2 + 1)), (by first | rfl | (simp; done) | (simp [*]; done)), H', ⟨by have := HK1.out; have := HK2.out; omega⟩, ⟨by (with_reducible repeat (first | refine blk_drewN ?_ _ | refine blk_drew ?_ | refine blk_alloc ?_ _)); exact BK101.out⟩, ⟨by repeat (first | (with_reducible first | exact HB.out | apply below_alloc | apply pw_below_drewN | apply below_drew1 | refine below_set ?_ GE101.out) | exact HB.out)⟩⟩
          ·rw [if_neg c36] at H
           have c36b0 : (t124 == t116) = false := beq_eq_false_iff_ne.mpr c36
           have c36b1 : (t124 != t116) = true := bne_iff_ne.mpr c36
           obtain rfl := Option.some.inj H
           have hcz40_0 : wr.cell? ⟨gb101, 0, none⟩ = some (.string a0_0) := (blk_cell BK101.out 0).trans rfl
           have hcz40_1 : wr.cell? ⟨gb101, 1, none⟩ = some (.slice A0_1 l0_1.length c0_1) := (blk_cell BK101.out 1).trans rfl
           have hcz40_2 : wr.cell? ⟨gb101, 2, none⟩ = some (.slice A0_2 l0_2.length c0_2) := (blk_cell BK101.out 2).trans rfl
           have hfz40_0 := blk_frozen BK101.out 0
           have hfz40_1 := blk_frozen BK101.out 1
           have hfz40_2 := blk_frozen BK101.out 2
           go_wp2_with (first | ((with_reducible refine gate_callee (f := 17) rfl ?_); refine goesL_ (some 77) rfl rfl Try.func17 (by kernel_rfl) rfl #[.agg #[.string a0_0, .slice A0_1 l0_1.length c0_1, .slice A0_2 l0_2.length c0_2], .int .i64 x12_2] rfl (by (try simp only [List.map_toArray, List.map_cons, List.map_nil]); first | done | rfl | (simp only [List.length_drop, List.length_take]; rfl)) ?_; (with_reducible refine (plan_Order.calls a0_0 _ _ l0_1 _ _ l0_2 x12_2 t121 t124 _ ?side1 ?side2 ?side3 ?side4 A33.out).mono ?_); (case side1 => repeat (first | exact (Kd.C_below HR0_1.out HB.out) | (with_reducible refine Kd.C_alloc ?_ _) | (with_reducible refine Kd.C_drewN ?_ _) | (with_reducible refine Kd.C_drew ?_))); (case side2 => exact HC0_1.out); (case side3 => repeat (first | exact (Kd.C_below HR0_2.out HB.out) | (with_reducible refine Kd.C_alloc ?_ _) | (with_reducible refine Kd.C_drewN ?_ _) | (with_reducible refine Kd.C_drew ?_))); (case side4 => exact HC0_2.out); rintro e w41 ⟨v122, rfl, ho0, hb⟩; refine ⟨_, rfl, ?_⟩; have n0_ := Aside0.mk (Kd.R_lower ho0 (below_size (by repeat (first | (with_reducible first | exact HB.out | apply below_alloc | apply pw_below_drewN | apply below_drew1 | refine below_set ?_ GE101.out) | exact HB.out)))); have n1_ := Aside0.mk (blk_below (g := gb101) (o := .cells #[.string a0_0, .slice A0_1 l0_1.length c0_1, .slice A0_2 l0_2.length c0_2] 27 (0, 0)) (by (with_reducible repeat (first | refine blk_drewN ?_ _ | refine blk_drew ?_ | refine blk_alloc ?_ _)); exact BK101.out) hb); have n2_ := Aside0.mk (below_step (by repeat (first | (with_reducible first | exact HB.out | apply below_alloc | apply pw_below_drewN | apply below_drew1 | refine below_set ?_ GE101.out) | exact HB.out)) hb); clear BK101; clear HB; have HO123 := n0_; have BK101 := n1_; have HB := n2_; clear n0_ n1_ n2_; (try clear hb); (try clear hb2); (try clear hk); (try clear hi); (try clear ho0); have hcz42_0 : w41.cell? ⟨gb101, 0, none⟩ = some (.string a0_0) := (blk_cell BK101.out 0).trans rfl; have hcz42_1 : w41.cell? ⟨gb101, 1, none⟩ = some (.slice A0_1 l0_1.length c0_1) := (blk_cell BK101.out 1).trans rfl; have hcz42_2 : w41.cell? ⟨gb101, 2, none⟩ = some (.slice A0_2 l0_2.length c0_2) := (blk_cell BK101.out 2).trans rfl; have hfz42_0 := blk_frozen BK101.out 0; have hfz42_1 := blk_frozen BK101.out 1; have hfz42_2 := blk_frozen BK101.out 2; have p125 : 0 ≤ (x12_2 : Int) := of_decide_eq_true (by first | (with_reducible assumption) | assumption); have q125 : x12_2 < (l0_2.length : Int) := of_decide_eq_true (by first | (with_reducible assumption) | assumption); obtain ⟨ad125, A125_2, c125_2, e125, hx125_0, hx125_1, hx125_2, hx125_3, hx125_4, hx125_5, hx125_6, hx125_7, hx125_8, hx125_9, hx125_10, hx125_11, hx125_12, hx125_13, hl125_2, hi125_2⟩ := at_T47 HR0_2.out x12_2 p125 q125; cases e125; replace hx125_0 := (HB.out.cell (blt_ hx125_0)).trans hx125_0; replace hx125_1 := (HB.out.cell (blt_ hx125_1)).trans hx125_1; replace hx125_2 := (HB.out.cell (blt_ hx125_2)).trans hx125_2; replace hx125_3 := (HB.out.cell (blt_ hx125_3)).trans hx125_3; replace hx125_4 := (HB.out.cell (blt_ hx125_4)).trans hx125_4; replace hx125_5 := (HB.out.cell (blt_ hx125_5)).trans hx125_5; replace hx125_6 := (HB.out.cell (blt_ hx125_6)).trans hx125_6; replace hx125_7 := (HB.out.cell (blt_ hx125_7)).trans hx125_7; replace hx125_8 := (HB.out.cell (blt_ hx125_8)).trans hx125_8; replace hx125_9 := (HB.out.cell (blt_ hx125_9)).trans hx125_9; replace hx125_10 := (HB.out.cell (blt_ hx125_10)).trans hx125_10; replace hx125_11 := (HB.out.cell (blt_ hx125_11)).trans hx125_11; replace hx125_12 := (HB.out.cell (blt_ hx125_12)).trans hx125_12; replace hx125_13 := (HB.out.cell (blt_ hx125_13)).trans hx125_13; have HR125_2 := Aside0.mk hi125_2; have HC125_2 := Aside0.mk hl125_2; clear hi125_2 hl125_2; replace p125 := eq_true p125; replace q125 := eq_true q125))
           go_ret
           exact ⟨by first | rfl | (simp [errW_none, errW_some] <;> rfl) | (simp [*, errW_none, errW_some] <;> rfl), by repeat (first | (with_reducible first | exact HB.out | apply below_alloc | apply pw_below_drewN | apply below_drew1 | refine below_set ?_ GE101.out) | exact HB.out)⟩
         ·rw [if_neg c35] at H
          have c35b0 : (((rd_T47 l0_2 x12_2).kind) == 1) = false := beq_eq_false_iff_ne.mpr c35
          have c35b1 : (((rd_T47 l0_2 x12_2).kind) != 1) = true := bne_iff_ne.mpr c35
          by_cases c43 : t124 = 1
          ·rw [if_pos c43] at H
           have c43b0 : (t124 == 1) = true := beq_iff_eq.mpr c43
           have c43b1 : (t124 != 1) = false := bne_eq_false_iff_eq.mpr c43
           clear c43
           have H' := Aside0.mk H
           clear H
           have hcz44_0 : wr.cell? ⟨gb101, 0, none⟩ = some (.string a0_0) := (blk_cell BK101.out 0).trans rfl
           have hcz44_1 : wr.cell? ⟨gb101, 1, none⟩ = some (.slice A0_1 l0_1.length c0_1) := (blk_cell BK101.out 1).trans rfl
           have hcz44_2 : wr.cell? ⟨gb101, 2, none⟩ = some (.slice A0_2 l0_2.length c0_2) := (blk_cell BK101.out 2).trans rfl
           have hfz44_0 := blk_frozen BK101.out 0
           have hfz44_1 := blk_frozen BK101.out 1
           have hfz44_2 := blk_frozen BK101.out 2
           go_wp2_with (first | ((with_reducible refine gate_callee (f := 17) rfl ?_); refine goesL_ (some 77) rfl rfl Try.func17 (by kernel_rfl) rfl #[.agg #[.string a0_0, .slice A0_1 l0_1.length c0_1, .slice A0_2 l0_2.length c0_2], .int .i64 x12_2] rfl (by (try simp only [List.map_toArray, List.map_cons, List.map_nil]); first | done | rfl | (simp only [List.length_drop, List.length_take]; rfl)) ?_; (with_reducible refine (plan_Order.calls a0_0 _ _ l0_1 _ _ l0_2 x12_2 t121 t124 _ ?side1 ?side2 ?side3 ?side4 A33.out).mono ?_); (case side1 => repeat (first | exact (Kd.C_below HR0_1.out HB.out) | (with_reducible refine Kd.C_alloc ?_ _) | (with_reducible refine Kd.C_drewN ?_ _) | (with_reducible refine Kd.C_drew ?_))); (case side2 => exact HC0_1.out); (case side3 => repeat (first | exact (Kd.C_below HR0_2.out HB.out) | (with_reducible refine Kd.C_alloc ?_ _) | (with_reducible refine Kd.C_drewN ?_ _) | (with_reducible refine Kd.C_drew ?_))); (case side4 => exact HC0_2.out); rintro e w45 ⟨v122, rfl, ho0, hb⟩; refine ⟨_, rfl, ?_⟩; have n0_ := Aside0.mk (Kd.R_lower ho0 (below_size (by repeat (first | (with_reducible first | exact HB.out | apply below_alloc | apply pw_below_drewN | apply below_drew1 | refine below_set ?_ GE101.out) | exact HB.out)))); have n1_ := Aside0.mk (blk_below (g := gb101) (o := .cells #[.string a0_0, .slice A0_1 l0_1.length c0_1, .slice A0_2 l0_2.length c0_2] 27 (0, 0)) (by (with_reducible repeat (first | refine blk_drewN ?_ _ | refine blk_drew ?_ | refine blk_alloc ?_ _)); exact BK101.out) hb); have n2_ := Aside0.mk (below_step (by repeat (first | (with_reducible first | exact HB.out | apply below_alloc | apply pw_below_drewN | apply below_drew1 | refine below_set ?_ GE101.out) | exact HB.out)) hb); clear BK101; clear HB; have HO123 := n0_; have BK101 := n1_; have HB := n2_; clear n0_ n1_ n2_; (try clear hb); (try clear hb2); (try clear hk); (try clear hi); (try clear ho0); have hcz46_0 : w45.cell? ⟨gb101, 0, none⟩ = some (.string a0_0) := (blk_cell BK101.out 0).trans rfl; have hcz46_1 : w45.cell? ⟨gb101, 1, none⟩ = some (.slice A0_1 l0_1.length c0_1) := (blk_cell BK101.out 1).trans rfl; have hcz46_2 : w45.cell? ⟨gb101, 2, none⟩ = some (.slice A0_2 l0_2.length c0_2) := (blk_cell BK101.out 2).trans rfl; have hfz46_0 := blk_frozen BK101.out 0; have hfz46_1 := blk_frozen BK101.out 1; have hfz46_2 := blk_frozen BK101.out 2; have p125 : 0 ≤ (x12_2 : Int) := of_decide_eq_true (by first | (with_reducible assumption) | assumption); have q125 : x12_2 < (l0_2.length : Int) := of_decide_eq_true (by first | (with_reducible assumption) | assumption); obtain ⟨ad125, A125_2, c125_2, e125, hx125_0, hx125_1, hx125_2, hx125_3, hx125_4, hx125_5, hx125_6, hx125_7, hx125_8, hx125_9, hx125_10, hx125_11, hx125_12, hx125_13, hl125_2, hi125_2⟩ := at_T47 HR0_2.out x12_2 p125 q125; cases e125; replace hx125_0 := (HB.out.cell (blt_ hx125_0)).trans hx125_0; replace hx125_1 := (HB.out.cell (blt_ hx125_1)).trans hx125_1; replace hx125_2 := (HB.out.cell (blt_ hx125_2)).trans hx125_2; replace hx125_3 := (HB.out.cell (blt_ hx125_3)).trans hx125_3; replace hx125_4 := (HB.out.cell (blt_ hx125_4)).trans hx125_4; replace hx125_5 := (HB.out.cell (blt_ hx125_5)).trans hx125_5; replace hx125_6 := (HB.out.cell (blt_ hx125_6)).trans hx125_6; replace hx125_7 := (HB.out.cell (blt_ hx125_7)).trans hx125_7; replace hx125_8 := (HB.out.cell (blt_ hx125_8)).trans hx125_8; replace hx125_9 := (HB.out.cell (blt_ hx125_9)).trans hx125_9; replace hx125_10 := (HB.out.cell (blt_ hx125_10)).trans hx125_10; replace hx125_11 := (HB.out.cell (blt_ hx125_11)).trans hx125_11; replace hx125_12 := (HB.out.cell (blt_ hx125_12)).trans hx125_12; replace hx125_13 := (HB.out.cell (blt_ hx125_13)).trans hx125_13; have HR125_2 := Aside0.mk hi125_2; have HC125_2 := Aside0.mk hl125_2; clear hi125_2 hl125_2; replace p125 := eq_true p125; replace q125 := eq_true q125))
           go_roundg k2
           case measure => have := HK1.out; have := HK2.out; omega
           case rel => exact ⟨(wrap64 (x12_2 + 1)), (by first | rfl | (simp; done) | (simp [*]; done)), H', ⟨by have := HK1.out; have := HK2.out; omega⟩, ⟨by (with_reducible repeat (first | refine blk_drewN ?_ _ | refine blk_drew ?_ | refine blk_alloc ?_ _)); exact BK101.out⟩, ⟨by repeat (first | (with_reducible first | exact HB.out | apply below_alloc | apply pw_below_drewN | apply below_drew1 | refine below_set ?_ GE101.out) | exact HB.out)⟩⟩
          ·rw [if_neg c43] at H
           have c43b0 : (t124 == 1) = false := beq_eq_false_iff_ne.mpr c43
           have c43b1 : (t124 != 1) = true := bne_iff_ne.mpr c43
           obtain rfl := Option.some.inj H
           have hcz47_0 : wr.cell? ⟨gb101, 0, none⟩ = some (.string a0_0) := (blk_cell BK101.out 0).trans rfl
           have hcz47_1 : wr.cell? ⟨gb101, 1, none⟩ = some (.slice A0_1 l0_1.length c0_1) := (blk_cell BK101.out 1).trans rfl
           have hcz47_2 : wr.cell? ⟨gb101, 2, none⟩ = some (.slice A0_2 l0_2.length c0_2) := (blk_cell BK101.out 2).trans rfl
           have hfz47_0 := blk_frozen BK101.out 0
           have hfz47_1 := blk_frozen BK101.out 1
           have hfz47_2 := blk_frozen BK101.out 2
           go_wp2_with (first | ((with_reducible refine gate_callee (f := 17) rfl ?_); refine goesL_ (some 77) rfl rfl Try.func17 (by kernel_rfl) rfl #[.agg #[.string a0_0, .slice A0_1 l0_1.length c0_1, .slice A0_2 l0_2.length c0_2], .int .i64 x12_2] rfl (by (try simp only [List.map_toArray, List.map_cons, List.map_nil]); first | done | rfl | (simp only [List.length_drop, List.length_take]; rfl)) ?_; (with_reducible refine (plan_Order.calls a0_0 _ _ l0_1 _ _ l0_2 x12_2 t121 t124 _ ?side1 ?side2 ?side3 ?side4 A33.out).mono ?_); (case side1 => repeat (first | exact (Kd.C_below HR0_1.out HB.out) | (with_reducible refine Kd.C_alloc ?_ _) | (with_reducible refine Kd.C_drewN ?_ _) | (with_reducible refine Kd.C_drew ?_))); (case side2 => exact HC0_1.out); (case side3 => repeat (first | exact (Kd.C_below HR0_2.out HB.out) | (with_reducible refine Kd.C_alloc ?_ _) | (with_reducible refine Kd.C_drewN ?_ _) | (with_reducible refine Kd.C_drew ?_))); (case side4 => exact HC0_2.out); rintro e w48 ⟨v122, rfl, ho0, hb⟩; refine ⟨_, rfl, ?_⟩; have n0_ := Aside0.mk (Kd.R_lower ho0 (below_size (by repeat (first | (with_reducible first | exact HB.out | apply below_alloc | apply pw_below_drewN | apply below_drew1 | refine below_set ?_ GE101.out) | exact HB.out)))); have n1_ := Aside0.mk (blk_below (g := gb101) (o := .cells #[.string a0_0, .slice A0_1 l0_1.length c0_1, .slice A0_2 l0_2.length c0_2] 27 (0, 0)) (by (with_reducible repeat (first | refine blk_drewN ?_ _ | refine blk_drew ?_ | refine blk_alloc ?_ _)); exact BK101.out) hb); have n2_ := Aside0.mk (below_step (by repeat (first | (with_reducible first | exact HB.out | apply below_alloc | apply pw_below_drewN | apply below_drew1 | refine below_set ?_ GE101.out) | exact HB.out)) hb); clear BK101; clear HB; have HO123 := n0_; have BK101 := n1_; have HB := n2_; clear n0_ n1_ n2_; (try clear hb); (try clear hb2); (try clear hk); (try clear hi); (try clear ho0); have hcz49_0 : w48.cell? ⟨gb101, 0, none⟩ = some (.string a0_0) := (blk_cell BK101.out 0).trans rfl; have hcz49_1 : w48.cell? ⟨gb101, 1, none⟩ = some (.slice A0_1 l0_1.length c0_1) := (blk_cell BK101.out 1).trans rfl; have hcz49_2 : w48.cell? ⟨gb101, 2, none⟩ = some (.slice A0_2 l0_2.length c0_2) := (blk_cell BK101.out 2).trans rfl; have hfz49_0 := blk_frozen BK101.out 0; have hfz49_1 := blk_frozen BK101.out 1; have hfz49_2 := blk_frozen BK101.out 2; have p125 : 0 ≤ (x12_2 : Int) := of_decide_eq_true (by first | (with_reducible assumption) | assumption); have q125 : x12_2 < (l0_2.length : Int) := of_decide_eq_true (by first | (with_reducible assumption) | assumption); obtain ⟨ad125, A125_2, c125_2, e125, hx125_0, hx125_1, hx125_2, hx125_3, hx125_4, hx125_5, hx125_6, hx125_7, hx125_8, hx125_9, hx125_10, hx125_11, hx125_12, hx125_13, hl125_2, hi125_2⟩ := at_T47 HR0_2.out x12_2 p125 q125; cases e125; replace hx125_0 := (HB.out.cell (blt_ hx125_0)).trans hx125_0; replace hx125_1 := (HB.out.cell (blt_ hx125_1)).trans hx125_1; replace hx125_2 := (HB.out.cell (blt_ hx125_2)).trans hx125_2; replace hx125_3 := (HB.out.cell (blt_ hx125_3)).trans hx125_3; replace hx125_4 := (HB.out.cell (blt_ hx125_4)).trans hx125_4; replace hx125_5 := (HB.out.cell (blt_ hx125_5)).trans hx125_5; replace hx125_6 := (HB.out.cell (blt_ hx125_6)).trans hx125_6; replace hx125_7 := (HB.out.cell (blt_ hx125_7)).trans hx125_7; replace hx125_8 := (HB.out.cell (blt_ hx125_8)).trans hx125_8; replace hx125_9 := (HB.out.cell (blt_ hx125_9)).trans hx125_9; replace hx125_10 := (HB.out.cell (blt_ hx125_10)).trans hx125_10; replace hx125_11 := (HB.out.cell (blt_ hx125_11)).trans hx125_11; replace hx125_12 := (HB.out.cell (blt_ hx125_12)).trans hx125_12; replace hx125_13 := (HB.out.cell (blt_ hx125_13)).trans hx125_13; have HR125_2 := Aside0.mk hi125_2; have HC125_2 := Aside0.mk hl125_2; clear hi125_2 hl125_2; replace p125 := eq_true p125; replace q125 := eq_true q125))
           go_ret
           exact ⟨by first | rfl | (simp [errW_none, errW_some] <;> rfl) | (simp [*, errW_none, errW_some] <;> rfl), by repeat (first | (with_reducible first | exact HB.out | apply below_alloc | apply pw_below_drewN | apply below_drew1 | refine below_set ?_ GE101.out) | exact HB.out)⟩
        ·rw [if_neg c34] at H
         exact absurd H (by simp)
       ·rw [if_neg c32] at H
        have c32b0 : decide (x12_2 < (l0_2.length : Int)) = false := decide_eq_false c32
        clear c32
        by_cases c50 : t102 = true
        ·subst c50
         have H1 : (some (t116 == t120)) = some r := by rw [if_pos rfl] at H; exact H
         clear H
         have H := H1
         clear H1
         obtain rfl := Option.some.inj H
         have hcz51_0 : wr.cell? ⟨gb101, 0, none⟩ = some (.string a0_0) := (blk_cell BK101.out 0).trans rfl
         have hcz51_1 : wr.cell? ⟨gb101, 1, none⟩ = some (.slice A0_1 l0_1.length c0_1) := (blk_cell BK101.out 1).trans rfl
         have hcz51_2 : wr.cell? ⟨gb101, 2, none⟩ = some (.slice A0_2 l0_2.length c0_2) := (blk_cell BK101.out 2).trans rfl
         have hfz51_0 := blk_frozen BK101.out 0
         have hfz51_1 := blk_frozen BK101.out 1
         have hfz51_2 := blk_frozen BK101.out 2
         go_wp2
         go_ret
         exact ⟨by first | rfl | (simp [errW_none, errW_some] <;> rfl) | (simp [*, errW_none, errW_some] <;> rfl), by repeat (first | (with_reducible first | exact HB.out | apply below_alloc | apply pw_below_drewN | apply below_drew1 | refine below_set ?_ GE101.out) | exact HB.out)⟩
        ·replace c50 := Bool.eq_false_iff.mpr c50
         subst c50
         have H1 : (some false) = some r := by rw [if_neg (show ¬ (false = true) by decide)] at H; exact H
         clear H
         have H := H1
         clear H1
         obtain rfl := Option.some.inj H
         have hcz52_0 : wr.cell? ⟨gb101, 0, none⟩ = some (.string a0_0) := (blk_cell BK101.out 0).trans rfl
         have hcz52_1 : wr.cell? ⟨gb101, 1, none⟩ = some (.slice A0_1 l0_1.length c0_1) := (blk_cell BK101.out 1).trans rfl
         have hcz52_2 : wr.cell? ⟨gb101, 2, none⟩ = some (.slice A0_2 l0_2.length c0_2) := (blk_cell BK101.out 2).trans rfl
         have hfz52_0 := blk_frozen BK101.out 0
         have hfz52_1 := blk_frozen BK101.out 1
         have hfz52_2 := blk_frozen BK101.out 2
         go_wp2
         go_ret
         exact ⟨by first | rfl | (simp [errW_none, errW_some] <;> rfl) | (simp [*, errW_none, errW_some] <;> rfl), by repeat (first | (with_reducible first | exact HB.out | apply below_alloc | apply pw_below_drewN | apply below_drew1 | refine below_set ?_ GE101.out) | exact HB.out)⟩
 ·replace c4 := Bool.eq_false_iff.mpr c4
  subst c4
  have H1 : (some t102) = some r := by rw [if_neg (show ¬ (false = true) by decide)] at H; exact H
  clear H
  have H := H1
  clear H1
  obtain rfl := Option.some.inj H
  go_enter Try.func14, Try.ntmps14
  go_wp2_with (first | ((with_reducible refine gate_dst (N := 1) rfl ?_); refine box_event ?hg (N := 1) ?hd (cs := #[.string a0_0, .slice A0_1 l0_1.length c0_1, .slice A0_2 l0_2.length c0_2]) (t := 27) ?hr ?_; (case hd => rfl); (case hg => rfl); (case hr => first | (go_simp; done) | (go_simp; rfl)); intro gb101 hg w53 hbox hb; have n0_ := Aside0.mk (below_step (by repeat (first | (with_reducible first | exact HB.out | apply below_alloc | apply pw_below_drewN | apply below_drew1) | exact HB.out)) hb); have n1_ := Aside0.mk (hbox); have n2_ := Aside0.mk ((by rw [hg]; exact (below_size (by repeat (first | (with_reducible first | exact HB.out | apply below_alloc | apply pw_below_drewN | apply below_drew1) | exact HB.out))) : w.heap.size ≤ gb101)); have n3_ := Aside0.mk ((by rw [hg]; exact (below_size (by repeat (first | (with_reducible first | exact HB.out | apply below_alloc | apply pw_below_drewN | apply below_drew1) | exact HB.out))) : w.heap.size ≤ gb101)); clear HB; have HB := n0_; have BK101 := n1_; have GW101 := n2_; have GE101 := n3_; clear n0_ n1_ n2_ n3_; clear hb hbox hg) | ((with_reducible refine gate_callee (f := 15) rfl ?_); refine goesL_ (some 16) rfl rfl Try.func15 (by kernel_rfl) rfl #[] rfl (by (try simp only [List.map_toArray, List.map_cons, List.map_nil]); first | done | rfl | (simp only [List.length_drop, List.length_take]; rfl)) ?_; (with_reducible refine (lambrequinlaw13_shown.calls  t102 _ A2.out).mono ?_); rintro e w54 ⟨rfl, hb⟩; refine ⟨_, rfl, ?_⟩; have n0_ := Aside0.mk (blk_below (g := gb101) (o := .cells #[.string a0_0, .slice A0_1 l0_1.length c0_1, .slice A0_2 l0_2.length c0_2] 27 (0, 0)) (by (with_reducible repeat (first | refine blk_drewN ?_ _ | refine blk_drew ?_ | refine blk_alloc ?_ _)); exact BK101.out) hb); have n1_ := Aside0.mk (below_step (by repeat (first | (with_reducible first | exact HB.out | apply below_alloc | apply pw_below_drewN | apply below_drew1 | refine below_set ?_ GE101.out) | exact HB.out)) hb); clear BK101; clear HB; have BK101 := n0_; have HB := n1_; clear n0_ n1_; (try clear hb); (try clear hb2); (try clear hk); (try clear hi); have hcz55_0 : w54.cell? ⟨gb101, 0, none⟩ = some (.string a0_0) := (blk_cell BK101.out 0).trans rfl; have hcz55_1 : w54.cell? ⟨gb101, 1, none⟩ = some (.slice A0_1 l0_1.length c0_1) := (blk_cell BK101.out 1).trans rfl; have hcz55_2 : w54.cell? ⟨gb101, 2, none⟩ = some (.slice A0_2 l0_2.length c0_2) := (blk_cell BK101.out 2).trans rfl; have hfz55_0 := blk_frozen BK101.out 0; have hfz55_1 := blk_frozen BK101.out 1; have hfz55_2 := blk_frozen BK101.out 2) | ((with_reducible refine gate_callee (f := 16) rfl ?_); refine goesL_ (some 18) rfl rfl Try.func16 (by kernel_rfl) rfl #[.agg #[.string a0_0, .slice A0_1 l0_1.length c0_1, .slice A0_2 l0_2.length c0_2]] rfl (by (try simp only [List.map_toArray, List.map_cons, List.map_nil]); first | done | rfl | (simp only [List.length_drop, List.length_take]; rfl)) ?_; (with_reducible refine (lambrequinlaw13_few.calls k a0_0 _ _ l0_1 _ _ l0_2 false _ ?side1 ?side2 ?side3 ?side4 A3.out).mono ?_); (case side1 => repeat (first | exact (Kd.C_below HR0_1.out HB.out) | (with_reducible refine Kd.C_alloc ?_ _) | (with_reducible refine Kd.C_drewN ?_ _) | (with_reducible refine Kd.C_drew ?_))); (case side2 => exact HC0_1.out); (case side3 => repeat (first | exact (Kd.C_below HR0_2.out HB.out) | (with_reducible refine Kd.C_alloc ?_ _) | (with_reducible refine Kd.C_drewN ?_ _) | (with_reducible refine Kd.C_drew ?_))); (case side4 => exact HC0_2.out); rintro e w56 ⟨rfl, hb⟩; refine ⟨_, rfl, ?_⟩; have n0_ := Aside0.mk (blk_below (g := gb101) (o := .cells #[.string a0_0, .slice A0_1 l0_1.length c0_1, .slice A0_2 l0_2.length c0_2] 27 (0, 0)) (by (with_reducible repeat (first | refine blk_drewN ?_ _ | refine blk_drew ?_ | refine blk_alloc ?_ _)); exact BK101.out) hb); have n1_ := Aside0.mk (below_step (by repeat (first | (with_reducible first | exact HB.out | apply below_alloc | apply pw_below_drewN | apply below_drew1 | refine below_set ?_ GE101.out) | exact HB.out)) hb); clear BK101; clear HB; have BK101 := n0_; have HB := n1_; clear n0_ n1_; (try clear hb); (try clear hb2); (try clear hk); (try clear hi)))
  go_ret
  exact ⟨by first | rfl | (simp [errW_none, errW_some] <;> rfl) | (simp [*, errW_none, errW_some] <;> rfl), by repeat (first | (with_reducible first | exact HB.out | apply below_alloc | apply pw_below_drewN | apply below_drew1 | refine below_set ?_ GE101.out) | exact HB.out)⟩
end Go.Proofs.Ythpejcnldecmoaa.H
/- PlanSafe: where a rule is safe there is an order, whatever is first of its atoms; where there is one all that asks is bound. Conditions: the statement's own. -/
namespace Go.Proofs.Ythpejcnldecmoaa.H
open Go.RowKit Go.Proofs.YthpejcnldecmoaaW.PrintWords
set_option linter.unusedVariables false
set_option linter.unusedSimpArgs false
set_option linter.unusedSectionVars false
theorem bestGo_some (body : List Liter) (bound : List ByteArray) : ∀ (l : List Nat) (b : Option Nat × Int), b.1.isSome = true → (bestGo body bound l b).1.isSome = true
  | [], b, h => h
  | x :: l, b, h => by
    unfold bestGo
    split
    · exact bestGo_some body bound l _ rfl
    · exact bestGo_some body bound l _ h
theorem bestGo_no (body : List Liter) (bound : List ByteArray) : ∀ (l : List Nat), (bestGo body bound l (none, -1)).1 = none → ∀ j ∈ l, ¬ (lit body j).kind = 1
  | [], _, j, hj => by simp at hj
  | x :: l, h, j, hj => by
    unfold bestGo at h
    by_cases hx : (lit body x).kind = 1
    · rw [if_pos ⟨hx, by show (-1 : Int) < _; omega⟩] at h
      have := bestGo_some body bound l (some x, ((cols bound (lit body x).atom.args).length : Int)) rfl
      rw [h] at this
      cases this
    · rw [if_neg (fun h' => hx h'.1)] at h
      rcases List.mem_cons.1 hj with rfl | hj
      · exact hx
      · exact bestGo_no body bound l h j hj
theorem mem_boundOf {body : List Liter} {x : ByteArray} : ∀ (o : List Nat), x ∈ boundOf body o ↔ ∃ k ∈ o, (lit body k).kind = 1 ∧ x ∈ names (lit body k).atom.args := by
  have go : ∀ (o : List Nat) (b : List ByteArray), x ∈ o.foldl (fun b k => if (lit body k).kind = 1 then b ++ names (lit body k).atom.args else b) b ↔ x ∈ b ∨ ∃ k ∈ o, (lit body k).kind = 1 ∧ x ∈ names (lit body k).atom.args := by
    intro o
    induction o with
    | nil => intro b; simp
    | cons k o ih =>
      intro b
      rw [List.foldl_cons, ih]
      by_cases hk : (lit body k).kind = 1
      · rw [if_pos hk, List.mem_append]
        constructor
        · rintro ((h | h) | ⟨j, hj, h⟩)
          · exact .inl h
          · exact .inr ⟨k, by simp, hk, h⟩
          · exact .inr ⟨j, by simp [hj], h⟩
        · rintro (h | ⟨j, hj, h⟩)
          · exact .inl (.inl h)
          · rcases List.mem_cons.1 hj with rfl | hj
            · exact .inl (.inr h.2)
            · exact .inr ⟨j, hj, h⟩
      · rw [if_neg hk]
        constructor
        · rintro (h | ⟨j, hj, h⟩)
          · exact .inl h
          · exact .inr ⟨j, by simp [hj], h⟩
        · rintro (h | ⟨j, hj, h⟩)
          · exact .inl h
          · rcases List.mem_cons.1 hj with rfl | hj
            · exact absurd h.1 hk
            · exact .inr ⟨j, hj, h⟩
  intro o
  have := go o []
  simpa [boundOf] using this
theorem known_iff {b : List ByteArray} {y : Liter} : known b y = true ↔ ∀ x ∈ names (litTerms y), x ∈ b := by
  unfold known
  rw [Bool.not_eq_true', List.any_eq_false]
  exact ⟨fun h x hx => mem_iff.1 (by simpa using h x hx), fun h x hx => by simpa using mem_iff.2 (h x hx)⟩
theorem usedS_terms {y : Liter} (h1 : ¬ y.kind = 1) (hk : odd y = false) : usedS y = names (litTerms y) := by
  unfold usedS litTerms
  have : ¬ y.kind < 1 ∧ ¬ 3 < y.kind := by simpa [odd] using hk
  by_cases h2 : y.kind = 2
  · have h3 : ¬ y.kind = 3 := by omega
    rw [if_pos h2, if_neg h3]
  · have h3 : y.kind = 3 := by omega
    rw [if_neg h2, if_pos h3, if_pos h3]
theorem run_some {body : List Liter} (hodd : body.any odd = false) (hs : safeP [] body) : ∀ (n : Nat) (o : List Nat), (stOf body o).left.length ≤ n → ∃ l, runOf body n (stOf body o) = some l := by
  intro n
  induction n with
  | zero =>
    intro o hn
    exact ⟨o, by unfold runOf; rw [if_pos (List.length_eq_zero_iff.1 (by omega))]; rfl⟩
  | succ n ih =>
    intro o hn
    unfold runOf
    by_cases c : (stOf body o).left = []
    · exact ⟨o, by rw [if_pos c]; rfl⟩
    · rw [if_neg c]
      cases hx : nextOf body (stOf body o) with
      | none =>
        exfalso
        unfold nextOf at hx
        split at hx
        · cases hx
        · rename_i ht
          obtain ⟨k, hk⟩ := List.exists_mem_of_ne_nil _ c
          have hno := bestGo_no body _ _ hx
          have hkl := (stOf_left.1 hk).1
          have h1 := hno k hk
          have ho : odd (lit body k) = false := by
            have := List.any_eq_false.1 hodd _ (lit_mem hkl)
            simpa using this
          have hask : ¬ asks (stOf body o).bound (lit body k) = true := by
            have := List.find?_eq_none.1 ht k hk
            exact this
          apply hask
          have hkn : known (stOf body o).bound (lit body k) = true := by
            rw [known_iff, ← usedS_terms h1 ho]
            intro x hx'
            have hb := hs.2 _ (lit_mem hkl) x hx'
            obtain ⟨y, hy, hy1, hy2⟩ := mem_boundS.1 hb
            obtain ⟨j, hj, rfl⟩ := List.mem_iff_getElem.1 hy
            have hlj : lit body j = body[j] := lit_of (List.getElem?_eq_getElem hj)
            refine (mem_boundOf o).2 ⟨j, ?_, by rw [hlj]; exact hy1, by rw [hlj]; exact hy2⟩
            by_cases hjo : j ∈ o
            · exact hjo
            · exact absurd (by rw [hlj]; exact hy1) (hno j (stOf_left.2 ⟨hj, hjo⟩))
          unfold asks
          rw [hkn]
          simp [h1]
      | some k =>
        have := takeOf_len (body := body) (nextOf_mem hx)
        show ∃ l, runOf body n (takeOf body (stOf body o) k) = some l
        rw [stOf_take] at this ⊢
        exact ih _ (by omega)
theorem code_safe {body : List Liter} {first : Int} (hb : badFirst body first = false) : ((orderOf body first).2 = 0 ∧ safeP [] body) ∨ ((orderOf body first).2 = 6 ∧ ¬ safeP [] body) := by
  have hodd : body.any odd = false := by
    unfold badFirst at hb
    simp only [Bool.or_eq_false_iff] at hb
    exact hb.1.1.1
  by_cases hs : safeP [] body
  · left
    refine ⟨?_, hs⟩
    have hst : ∃ o, (if 0 ≤ first then takeOf body (planStart body) first.toNat else planStart body) = stOf body o := by
      split
      · exact ⟨[first.toNat], by rw [stOf_start, stOf_take]; rfl⟩
      · exact ⟨[], stOf_start body⟩
    obtain ⟨o, ho⟩ := hst
    have hlen : (stOf body o).left.length ≤ body.length := by
      unfold stOf
      exact Nat.le_trans (List.length_filter_le _ _) (by simp)
    obtain ⟨l, hl⟩ := run_some hodd hs body.length o hlen
    unfold orderOf
    rw [if_neg (by rw [hb]; simp), ho, hl]
  · right
    refine ⟨?_, hs⟩
    rcases order_code body first with ⟨h0, T⟩ | ⟨hn, -⟩
    · exfalso
      apply hs
      refine ⟨fun x hx => by simp [names, namesGo] at hx, fun y hy x hx => ?_⟩
      obtain ⟨k, hk, rfl⟩ := List.mem_iff_getElem.1 hy
      have hlk : lit body k = body[k] := lit_of (List.getElem?_eq_getElem hk)
      rw [← hlk] at hx
      by_cases h1 : (lit body k).kind = 1
      · unfold usedS at hx
        rw [if_neg (by omega), if_neg (by omega)] at hx
        simp at hx
      · have ho : odd (lit body k) = false := by
          have := List.any_eq_false.1 hodd _ (lit_mem hk)
          simpa using this
        rw [usedS_terms h1 ho] at hx
        generalize (orderOf body first).1 = l at T
        have hkl : k ∈ l := by
          by_cases hkl : k ∈ l
          · exact hkl
          · have : k ∈ (stOf body l).left := stOf_left.2 ⟨hk, hkl⟩
            rw [T.done] at this
            simp at this
        obtain ⟨i, hi, hli⟩ := List.mem_iff_getElem.1 hkl
        have hi' : l[i]? = some k := by rw [← hli]; exact List.getElem?_eq_getElem hi
        rcases T.step i k hi' with ⟨-, hf, he⟩ | hnx
        · exfalso
          unfold badFirst at hb
          simp only [Bool.or_eq_false_iff] at hb
          have := hb.2
          rw [← he] at this
          simp [hf, h1] at this
        · have hkn : known (stOf body (l.take i)).bound (lit body k) = true := by
            unfold nextOf at hnx
            split at hnx
            · rename_i k' hk'
              cases hnx
              have := List.find?_some hk'
              unfold asks at this
              simp at this
              exact this.2
            · rcases bestGo_kind body _ _ _ k hnx with h | h
              · cases h
              · exact absurd h h1
          obtain ⟨j, hj, hj1, hj2⟩ := (mem_boundOf _).1 (known_iff.1 hkn x hx)
          refine mem_boundS.2 ⟨lit body j, ?_, hj1, hj2⟩
          by_cases hjl : j < body.length
          · exact lit_mem hjl
          · exfalso
            unfold lit at hj1
            rw [List.getD_eq_getElem?_getD, List.getElem?_eq_none (by omega)] at hj1
            revert hj1
            decide
    · unfold orderOf at hn ⊢
      rw [if_neg (by rw [hb]; simp)] at hn ⊢
      split
      · rename_i l hl
        rw [hl] at hn
        exact absurd rfl hn
      · rfl
theorem code_bad {body : List Liter} {first : Int} (hb : badFirst body first = true) : (orderOf body first).2 = 1 := by unfold orderOf; rw [if_pos hb]
theorem code_check {body : List Liter} {first : Int} (hb : badFirst body first = false) : (orderOf body first).2 = (chkS [] body).2.2 := by
  rcases code_safe hb with ⟨h, h'⟩ | ⟨h, h'⟩ <;> rcases chkS_code [] body with ⟨g, g'⟩ | ⟨g, g'⟩
  · rw [h, g]
  · exact absurd h' g'
  · exact absurd g' h'
  · rw [h, g]
section
variable (p : ByteArray) (hd : List Term) (body : List Liter) (hb : body.length ≤ 20) (ha : ∀ y ∈ body, y.atom.args.length ≤ 20)
include hb ha
theorem PSafe_l1 (hodd : body.any odd = false) (x9 x11 : Int) (e9 : x9 = (chkS [] body).2.2) (e11 : x11 = (chkS [] body).2.2) : ∀ (r : List Liter) (n : Nat), body.drop n = r → Ev (fun k => lambrequinlaw13_PlanSafe.l1 k true x9 x11 n p hd body) true
  | [], n, h => by
    refine Ev.step (fun k => by rw [lambrequinlaw13_PlanSafe.l1]) ?_
    exact Ev.neg (drop_end h) (Ev.pos rfl (Ev.some (by rw [e9, e11]; simp)))
  | y :: r, n, h => by
    obtain ⟨h1, h2, h3, h4, h5⟩ := drop_more h (by omega)
    have hy : body[n]? = some y := by
      have := congrArg (fun z => z[0]?) h
      simpa using this
    have ih := PSafe_l1 hodd x9 x11 e9 e11 r (n + 1) h4
    refine Ev.step (fun k => by rw [lambrequinlaw13_PlanSafe.l1]) ?_
    refine Ev.pos h1 (Ev.pure (pOrder_eq p hd body n (by omega) (fun z hz => by have := ha z hz; omega)) (Ev.pos h2 ?_))
    rw [show rd_T47 body n = y from h3 _, h5]
    by_cases hk : y.kind = 1
    · have hbad : badFirst body (n : Int) = false := by
        unfold badFirst
        rw [hodd, Int.toNat_natCast, lit_of hy]
        simp [hk]
        omega
      exact Ev.pos hk (Ev.pos (by rw [e9]; exact code_check hbad) ih)
    · have hbad : badFirst body (n : Int) = true := by
        unfold badFirst
        rw [Int.toNat_natCast, lit_of hy]
        simp [hk]
      exact Ev.neg hk (Ev.pos (code_bad hbad) ih)
theorem PSafe_l0 : ∀ (r : List Liter) (n : Nat), body.drop n = r → (∀ z ∈ body.take n, odd z = false) → Ev (fun k => lambrequinlaw13_PlanSafe.l0 k true n p hd body) true
  | [], n, h, hz => by
    have hlen : body.length ≤ n := by
      have := congrArg List.length h
      simp at this
      omega
    have ha0 : ∀ y ∈ body, y.atom.args.length ≤ 1000 := fun y hy => by have := ha y hy; omega
    have hodd : body.any odd = false := by
      rw [List.any_eq_false]
      intro z hz'
      rw [List.take_of_length_le hlen] at hz
      rw [hz z hz']
      simp
    have hbad : badFirst body (-1) = false := by
      unfold badFirst
      rw [hodd]
      simp
      omega
    refine Ev.step (fun k => by rw [lambrequinlaw13_PlanSafe.l0]) ?_
    refine Ev.neg (drop_end h) (Ev.bind (Check_ev ⟨#[]⟩ [] body (by simp) (by omega) ha0) (Ev.pure (pOrder_eq p hd body (-1) (by omega) ha0) ?_))
    exact PSafe_l1 p hd body hb ha hodd _ _ rfl (code_check hbad) body 0 rfl
  | y :: r, n, h, hz => by
    obtain ⟨h1, h2, h3, h4, h5⟩ := drop_more h (by omega)
    have hy : body[n]? = some y := by
      have := congrArg (fun z => z[0]?) h
      simpa using this
    have ha0 : ∀ y ∈ body, y.atom.args.length ≤ 1000 := fun y hy => by have := ha y hy; omega
    have bad : odd y = true → badFirst body (-1) = true := by
      intro ho
      unfold badFirst
      rw [show body.any odd = true from List.any_eq_true.2 ⟨y, List.mem_of_getElem? hy, ho⟩]
      simp
    refine Ev.step (fun k => by rw [lambrequinlaw13_PlanSafe.l0]) ?_
    refine Ev.pos h1 (Ev.pos h2 ?_)
    rw [show rd_T47 body n = y from h3 _, h5]
    by_cases c1 : y.kind < 1
    · refine Ev.pos c1 (Ev.pure (pOrder_eq p hd body (-1) (by omega) ha0) (Ev.pos rfl (Ev.some ?_)))
      rw [code_bad (bad (by simp [odd, c1]))]
      rfl
    · refine Ev.neg c1 ?_
      by_cases c3 : y.kind > 3
      · refine Ev.pos c3 (Ev.pure (pOrder_eq p hd body (-1) (by omega) ha0) (Ev.pos rfl (Ev.some ?_)))
        rw [code_bad (bad (by have : 3 < y.kind := c3; simp [odd, this]))]
        rfl
      · refine Ev.neg c3 (PSafe_l0 r (n + 1) h4 fun z hz' => ?_)
        rw [List.take_add_one, hy] at hz'
        rcases List.mem_append.1 hz' with hz' | hz'
        · exact hz z hz'
        · simp at hz'
          subst hz'
          have : ¬ 3 < z.kind := c3
          simp [odd, c1, this]
end
theorem PlanSafe_pure (x0 : Rule) (n1 : x0.head.args.length ≤ 9223372036854775807) (n2 : x0.body.length ≤ 9223372036854775807) :
    ∃ k, lambrequinlaw13_PlanSafe.f k x0.head.pred x0.head.args x0.body = some true := by
  refine Ev.rounds (g := fun k => lambrequinlaw13_PlanSafe.f k x0.head.pred x0.head.args x0.body) ?_
  unfold lambrequinlaw13_PlanSafe.f
  refine Ev.pure (a := true) rfl ?_
  refine Ev.bind (few_ev _ _ _ n2) ?_
  cases hf : few20 x0.body with
  | false => exact Ev.neg (by simp) (Ev.now _)
  | true =>
    obtain ⟨hl, ha⟩ := few20_iff.1 hf
    exact Ev.pos rfl (PSafe_l0 x0.head.pred x0.head.args x0.body hl ha x0.body 0 rfl (by simp))
theorem PlanSafe_walk (w : World) (x0 : Rule) (A0_1 : Option Addr) (c0_1 : Nat) (l0_1 : x0.head.args.length ≤ c0_1) (g0_1 : Kd.C k45 w A0_1 x0.head.args.length x0.head.args) (A0_2 : Option Addr) (c0_2 : Nat) (l0_2 : x0.body.length ≤ c0_2) (g0_2 : Kd.C k47 w A0_2 x0.body.length x0.body) :
    Calls Try.prog 14 #[.agg #[.string x0.head.pred, .slice A0_1 x0.head.args.length c0_1, .slice A0_2 x0.body.length c0_2]] w fun e w' => e = .returned (.bool true) ∧ Below w.heap.size w w' := by
  obtain ⟨k, h⟩ := PlanSafe_pure x0 g0_1.2.1 g0_2.2.1
  exact (lambrequinlaw13_PlanSafe.calls k x0.head.pred A0_1 c0_1 x0.head.args A0_2 c0_2 x0.body true w g0_1 l0_1 g0_2 l0_2 h).mono (fun e w' h' => ⟨h'.1, h'.2⟩)
end Go.Proofs.Ythpejcnldecmoaa.H
namespace Go.Proofs.Ythpejcnldecmoaa.planSafe
open Go.ChangeShapes Go.WideShapes Go.ChangeAt Go.RowKit Go.Proofs.Ythpejcnldecmoaa.H Go.Proofs.YthpejcnldecmoaaW.PrintWords
open Go.ChangeMaps (open_string shut_string)
set_option linter.unusedVariables false
theorem own : ownKnob Try.prog.godebug = none := by kernel_rfl
theorem laidOut : laidOutB Try.prog = true := by kernel_rfl
set_option maxRecDepth 100000 in
theorem lifted (os : Os) (started : os.Started) (H : Type) (enc : TypeId × Value → H) :
    ReturnsInHanded {} Try.checked os 14 .any (Rows.planSafeSpec.pre6 enc Try.prog Try.f14 Rows.planSafeRow.domain false) (Rows.planSafeSpec.post enc Try.prog Try.f14 false true false false) := by
  refine returnsInHanded_of_change_sized (C := Try.checked) own started (by kernel_rfl) Try.func14
    (ChangeSpec.witness6 (enc := enc) (C := Try.checked) false ⟨#[], #[.agg #[.string ⟨#[]⟩, .slice none 0 0, .slice none 0 0]], []⟩ 8 (by kernel_rfl) (by kernel_rfl) (by kernel_rfl) (by kernel_rfl)) ?_
  intro W base args ds gs before hval0 hW hcnd hsz0 _
  have hsz : (DataW.weightsEach Try.prog (Try.f14.params.toList ++ Rows.planSafeSpec.plain.varTypes Try.prog) (ds ++ gs)).all (· ≤ reachBytes) = true := hsz0
  have hval : ∀ (j : Nat) t v, Try.f14.params[j]? = some t → args[j]? = some v → Value.okWide Try.prog W .any base t v := hval0
  have hW' := hW
  obtain ⟨p, q, hA0, hV, rfl, hfz, hnd⟩ := hW
  have hA : DataW.TrodAll enc Try.prog W 0 (fun _ => true) true Try.f14.params.toList args.toList ds p := hA0
  rw [Try.params14] at hA hval hsz
  obtain ⟨v0, vs0, d0, ds0, p0, q0, hargs, rfl, rfl, h0, r0⟩ := trodAll_cons hA
  obtain ⟨rfl, rfl, rfl⟩ := trodAll_nil r0
  obtain rfl : args = #[v0] := by cases args; simp_all
  obtain ⟨rfl, rfl⟩ := trodVars_none hV
  have k0 := h0
  have lt0 : ∀ x ∈ p0, x.block < W.heap.size := by obtain ⟨m, hm⟩ := k0; exact DataW.trod_lt m _ _ _ hm
  obtain ⟨cs0, rfl, -⟩ := okWide_struct Try.underlying27 (hval 0 27 v0 rfl rfl)
  obtain ⟨x0, g0⟩ := opens_Rule.arg k0
  obtain ⟨A0_1, c0_1, A0_2, c0_2, e0, l0_1, g0_1, l0_2, g0_2⟩ := k27_open g0
  obtain ⟨cl0⟩ := cs0
  obtain rfl : cl0 = _ := e0
  clear hA0 hval0 hsz0 hsz
  refine (PlanSafe_walk W x0 A0_1 c0_1 l0_1 g0_1 A0_2 c0_2 l0_2 g0_2).mono fun e W' ⟨he, bel⟩ => ?_
  subst he
  exact ⟨_, rfl, _, _, _, [], _, [], hW', trodAll_mk1 (shut_bool Try.underlying4 _), (trodAll_cons_mk (Below.trod laidOut (by kernel_rfl) (of_decide_eq_true (by kernel_rfl)) k0 bel lt0) trodAll_mk0), rfl, bel.frame _, fun h => by cases h⟩
theorem over : Rows.planSafeRow.holds Try.pinned (OpenSpec.ofChange Rows.planSafeSpec) :=
  OpenClaim.holds_of_wide 14 Try.f14 rfl rfl rfl rfl rfl rfl rfl ⟨rfl, rfl, rfl, rfl, rfl⟩ rfl rfl rfl rfl rfl (by kernel_rfl) Try.func14 (by kernel_rfl)
    (of_decide_eq_true (by kernel_rfl)) (by unfold Func.isWrapper; first | (rw [if_pos (by decide +kernel)]; kernel_rfl) | (rw [if_neg (by decide +kernel)]; exact ⟨rfl, rfl⟩))
    (fun os started H enc _ => lifted os started H enc)
theorem proved : Rows.PlanSafeSaid := over
end Go.Proofs.Ythpejcnldecmoaa.planSafe
namespace Go.Proofs.Ythpejcnldecmoaa
theorem planSafe_holds : Rows.PlanSafeSaid := planSafe.proved
#print axioms planSafe_holds
end Go.Proofs.Ythpejcnldecmoaa

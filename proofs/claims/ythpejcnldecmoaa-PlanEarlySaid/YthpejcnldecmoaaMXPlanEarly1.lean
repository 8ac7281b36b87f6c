/- RowPlanEarly of the seat's law PlanEarly: the law holds, under the statement's own conditions. -/
import Derived.Test.YthpejcnldecmoaaMA
import Derived.Test.YthpejcnldecmoaaMD
import Derived.Test.YthpejcnldecmoaaMXPlanEarly
import Derived.Test.YthpejcnldecmoaaMC
import Derived.Test.YthpejcnldecmoaaMB
-- made by a program of this session (wip/tools) out of the translation; Lean checks it.
namespace Go.Proofs.Ythpejcnldecmoaa.H
open Go.RowKit Go.Proofs.YthpejcnldecmoaaW.PrintWords Go.Proofs.YthpejcnldecmoaaW.PrintLast Go.Proofs.YthpejcnldecmoaaW.PrintMore
attribute [local go_sem] max2_int min2_int max_two min_two max_three min_three max_four min_four   -- for this text's walks alone
set_option linter.unusedVariables false
set_option linter.unusedSimpArgs false


set_option maxHeartbeats 8000000 in
set_option maxRecDepth 100000 in
theorem lambrequinlaw13_PlanEarly.calls (k : Nat) (a0_0 : ByteArray) (A0_1 : Option Addr) (c0_1 : Nat) (l0_1 : List (Term)) (A0_2 : Option Addr) (c0_2 : Nat) (l0_2 : List (Liter)) (r : Bool) (w : World) (hr0_1 : Kd.C k45 w A0_1 l0_1.length l0_1) (hc0_1 : l0_1.length ≤ c0_1) (hr0_2 : Kd.C k47 w A0_2 l0_2.length l0_2) (hc0_2 : l0_2.length ≤ c0_2) (h : lambrequinlaw13_PlanEarly.f k a0_0 l0_1 l0_2 = some r) :
  Calls Try.prog 5 #[.agg #[.string a0_0, .slice A0_1 l0_1.length c0_1, .slice A0_2 l0_2.length c0_2]] w fun e w' => e = .returned (.bool r) ∧ Below w.heap.size w w' := by
 have hu27 := Try.underlying27
 have hu47 := Try.underlying47
 have hu24 := Try.underlying24
 have HR0_1 := Aside0.mk hr0_1
 have HC0_1 := Aside0.mk hc0_1
 clear hr0_1 hc0_1
 have HR0_2 := Aside0.mk hr0_2
 have HC0_2 := Aside0.mk hc0_2
 clear hr0_2 hc0_2
 have HB := Aside0.mk (Below.refl w.heap.size w)
 have H : ((lambrequinlaw13_shown.f).bind fun t102 => ((lambrequinlaw13_few.f k a0_0 l0_1 l0_2).bind fun t103 => (if t103 = true then ((plan_Order.f a0_0 l0_1 l0_2 (-1)).bind fun bt104 => (if bt104.2 = 0 then (lambrequinlaw13_PlanEarly.j0 k t102 bt104.1 bt104.2 ((bt104.1.length : Int) != (l0_2.length : Int)) a0_0 l0_1 l0_2) else (lambrequinlaw13_PlanEarly.j0 k t102 bt104.1 bt104.2 true a0_0 l0_1 l0_2))) else (some t102)))) = some r := h
 clear h
 replace H := Option.bind_eq_some_iff.mp H
 obtain ⟨t102, A20, H⟩ := H
 replace H : ((lambrequinlaw13_few.f k a0_0 l0_1 l0_2).bind fun t103 => (if t103 = true then ((plan_Order.f a0_0 l0_1 l0_2 (-1)).bind fun bt104 => (if bt104.2 = 0 then (lambrequinlaw13_PlanEarly.j0 k t102 bt104.1 bt104.2 ((bt104.1.length : Int) != (l0_2.length : Int)) a0_0 l0_1 l0_2) else (lambrequinlaw13_PlanEarly.j0 k t102 bt104.1 bt104.2 true a0_0 l0_1 l0_2))) else (some t102))) = some r := H
 have A2 := Aside0.mk A20
 clear A20
 replace H := Option.bind_eq_some_iff.mp H
 obtain ⟨t103, A30, H⟩ := H
 replace H : (if t103 = true then ((plan_Order.f a0_0 l0_1 l0_2 (-1)).bind fun bt104 => (if bt104.2 = 0 then (lambrequinlaw13_PlanEarly.j0 k t102 bt104.1 bt104.2 ((bt104.1.length : Int) != (l0_2.length : Int)) a0_0 l0_1 l0_2) else (lambrequinlaw13_PlanEarly.j0 k t102 bt104.1 bt104.2 true a0_0 l0_1 l0_2))) else (some t102)) = some r := H
 have A3 := Aside0.mk A30
 clear A30
 by_cases c4 : t103 = true
 ·subst c4
  have H1 : ((plan_Order.f a0_0 l0_1 l0_2 (-1)).bind fun bt104 => (if bt104.2 = 0 then (lambrequinlaw13_PlanEarly.j0 k t102 bt104.1 bt104.2 ((bt104.1.length : Int) != (l0_2.length : Int)) a0_0 l0_1 l0_2) else (lambrequinlaw13_PlanEarly.j0 k t102 bt104.1 bt104.2 true a0_0 l0_1 l0_2))) = some r := by rw [if_pos rfl] at H; exact H
  clear H
  have H := H1
  clear H1
  replace H := Option.bind_eq_some_iff.mp H
  obtain ⟨⟨t104, t107⟩, A50, H⟩ := H
  replace H : (if t107 = 0 then (lambrequinlaw13_PlanEarly.j0 k t102 t104 t107 ((t104.length : Int) != (l0_2.length : Int)) a0_0 l0_1 l0_2) else (lambrequinlaw13_PlanEarly.j0 k t102 t104 t107 true a0_0 l0_1 l0_2)) = some r := H
  have A5 := Aside0.mk A50
  clear A50
  have HC6 := Aside0.mk H
  clear H
  go_enter Try.func5, Try.ntmps5
  go_upto_region 5 with (first | ((with_reducible refine gate_dst (N := 1) rfl ?_); (try (refine gate_guard (by rfl) ?_; dsimp only)); refine box_event ?hg (N := 1) ?hd (cs := #[.string a0_0, .slice A0_1 l0_1.length c0_1, .slice A0_2 l0_2.length c0_2]) (t := 27) ?hr ?_; (case hd => rfl); (case hg => rfl); (case hr => first | (go_simp; done) | (go_simp; rfl)); intro gb101 hg w7 hbox hb; have n0_ := Aside0.mk (below_step (by repeat (first | (with_reducible first | exact HB.out | apply below_alloc | apply pw_below_drewN | apply below_drew1) | exact HB.out)) hb); have n1_ := Aside0.mk (hbox); have n2_ := Aside0.mk ((by rw [hg]; exact (below_size (by repeat (first | (with_reducible first | exact HB.out | apply below_alloc | apply pw_below_drewN | apply below_drew1) | exact HB.out))) : w.heap.size ≤ gb101)); have n3_ := Aside0.mk ((by rw [hg]; exact (below_size (by repeat (first | (with_reducible first | exact HB.out | apply below_alloc | apply pw_below_drewN | apply below_drew1) | exact HB.out))) : w.heap.size ≤ gb101)); clear HB; have HB := n0_; have BK101 := n1_; have GW101 := n2_; have GE101 := n3_; clear n0_ n1_ n2_ n3_; clear hb hbox hg) | ((with_reducible refine gate_callee (f := 15) rfl ?_); refine goesL_ (some 11) rfl rfl Try.func15 (by kernel_rfl) rfl #[] rfl (by (try simp only [List.map_toArray, List.map_cons, List.map_nil]); first | done | rfl | (simp only [List.length_drop, List.length_take]; rfl)) ?_; (with_reducible refine (lambrequinlaw13_shown.calls  t102 _ A2.out).mono ?_); rintro e w8 ⟨rfl, hb⟩; refine ⟨_, rfl, ?_⟩; have n0_ := Aside0.mk (blk_below (g := gb101) (o := .cells #[.string a0_0, .slice A0_1 l0_1.length c0_1, .slice A0_2 l0_2.length c0_2] 27 (0, 0)) (by (with_reducible repeat (first | refine blk_drewN ?_ _ | refine blk_drew ?_ | refine blk_alloc ?_ _)); exact BK101.out) hb); have n1_ := Aside0.mk (below_step (by repeat (first | (with_reducible first | exact HB.out | apply below_alloc | apply pw_below_drewN | apply below_drew1 | refine below_set ?_ GE101.out) | exact HB.out)) hb); clear BK101; clear HB; have BK101 := n0_; have HB := n1_; clear n0_ n1_; (try clear hb); (try clear hb2); (try clear hk); (try clear hi); have hcz9_0 : w8.cell? ⟨gb101, 0, none⟩ = some (.string a0_0) := (blk_cell BK101.out 0).trans rfl; have hcz9_1 : w8.cell? ⟨gb101, 1, none⟩ = some (.slice A0_1 l0_1.length c0_1) := (blk_cell BK101.out 1).trans rfl; have hcz9_2 : w8.cell? ⟨gb101, 2, none⟩ = some (.slice A0_2 l0_2.length c0_2) := (blk_cell BK101.out 2).trans rfl; have hfz9_0 := blk_frozen BK101.out 0; have hfz9_1 := blk_frozen BK101.out 1; have hfz9_2 := blk_frozen BK101.out 2) | ((with_reducible refine gate_callee (f := 16) rfl ?_); refine goesL_ (some 13) rfl rfl Try.func16 (by kernel_rfl) rfl #[.agg #[.string a0_0, .slice A0_1 l0_1.length c0_1, .slice A0_2 l0_2.length c0_2]] rfl (by (try simp only [List.map_toArray, List.map_cons, List.map_nil]); first | done | rfl | (simp only [List.length_drop, List.length_take]; rfl)) ?_; (with_reducible refine (lambrequinlaw13_few.calls k a0_0 _ _ l0_1 _ _ l0_2 true _ ?side1 ?side2 ?side3 ?side4 A3.out).mono ?_); (case side1 => repeat (first | exact (Kd.C_below HR0_1.out HB.out) | (with_reducible refine Kd.C_alloc ?_ _) | (with_reducible refine Kd.C_drewN ?_ _) | (with_reducible refine Kd.C_drew ?_))); (case side2 => exact HC0_1.out); (case side3 => repeat (first | exact (Kd.C_below HR0_2.out HB.out) | (with_reducible refine Kd.C_alloc ?_ _) | (with_reducible refine Kd.C_drewN ?_ _) | (with_reducible refine Kd.C_drew ?_))); (case side4 => exact HC0_2.out); rintro e w10 ⟨rfl, hb⟩; refine ⟨_, rfl, ?_⟩; have n0_ := Aside0.mk (blk_below (g := gb101) (o := .cells #[.string a0_0, .slice A0_1 l0_1.length c0_1, .slice A0_2 l0_2.length c0_2] 27 (0, 0)) (by (with_reducible repeat (first | refine blk_drewN ?_ _ | refine blk_drew ?_ | refine blk_alloc ?_ _)); exact BK101.out) hb); have n1_ := Aside0.mk (below_step (by repeat (first | (with_reducible first | exact HB.out | apply below_alloc | apply pw_below_drewN | apply below_drew1 | refine below_set ?_ GE101.out) | exact HB.out)) hb); clear BK101; clear HB; have BK101 := n0_; have HB := n1_; clear n0_ n1_; (try clear hb); (try clear hb2); (try clear hk); (try clear hi); have hcz11_0 : w10.cell? ⟨gb101, 0, none⟩ = some (.string a0_0) := (blk_cell BK101.out 0).trans rfl; have hcz11_1 : w10.cell? ⟨gb101, 1, none⟩ = some (.slice A0_1 l0_1.length c0_1) := (blk_cell BK101.out 1).trans rfl; have hcz11_2 : w10.cell? ⟨gb101, 2, none⟩ = some (.slice A0_2 l0_2.length c0_2) := (blk_cell BK101.out 2).trans rfl; have hfz11_0 := blk_frozen BK101.out 0; have hfz11_1 := blk_frozen BK101.out 1; have hfz11_2 := blk_frozen BK101.out 2) | ((with_reducible refine gate_callee (f := 17) rfl ?_); refine goesL_ (some 18) rfl rfl Try.func17 (by kernel_rfl) rfl #[.agg #[.string a0_0, .slice A0_1 l0_1.length c0_1, .slice A0_2 l0_2.length c0_2], .int .i64 (-1)] rfl (by (try simp only [List.map_toArray, List.map_cons, List.map_nil]); first | done | rfl | (simp only [List.length_drop, List.length_take]; rfl)) ?_; (with_reducible refine (plan_Order.calls a0_0 _ _ l0_1 _ _ l0_2 (-1) t104 t107 _ ?side1 ?side2 ?side3 ?side4 A5.out).mono ?_); (case side1 => repeat (first | exact (Kd.C_below HR0_1.out HB.out) | (with_reducible refine Kd.C_alloc ?_ _) | (with_reducible refine Kd.C_drewN ?_ _) | (with_reducible refine Kd.C_drew ?_))); (case side2 => exact HC0_1.out); (case side3 => repeat (first | exact (Kd.C_below HR0_2.out HB.out) | (with_reducible refine Kd.C_alloc ?_ _) | (with_reducible refine Kd.C_drewN ?_ _) | (with_reducible refine Kd.C_drew ?_))); (case side4 => exact HC0_2.out); rintro e w12 ⟨v105, rfl, ho0, hb⟩; refine ⟨_, rfl, ?_⟩; have n0_ := Aside0.mk (Kd.R_lower ho0 (below_size (by repeat (first | (with_reducible first | exact HB.out | apply below_alloc | apply pw_below_drewN | apply below_drew1 | refine below_set ?_ GE101.out) | exact HB.out)))); have n1_ := Aside0.mk (blk_below (g := gb101) (o := .cells #[.string a0_0, .slice A0_1 l0_1.length c0_1, .slice A0_2 l0_2.length c0_2] 27 (0, 0)) (by (with_reducible repeat (first | refine blk_drewN ?_ _ | refine blk_drew ?_ | refine blk_alloc ?_ _)); exact BK101.out) hb); have n2_ := Aside0.mk (below_step (by repeat (first | (with_reducible first | exact HB.out | apply below_alloc | apply pw_below_drewN | apply below_drew1 | refine below_set ?_ GE101.out) | exact HB.out)) hb); clear BK101; clear HB; have HO106 := n0_; have BK101 := n1_; have HB := n2_; clear n0_ n1_ n2_; (try clear hb); (try clear hb2); (try clear hk); (try clear hi); (try clear ho0)))
  (try simp only [Act.put, List.setIfInBounds_toArray, List.set_cons_zero, List.set_cons_succ])
  go_cut [30] (fun v30 wc => ∃ (kq : Nat) (x30_5 : Bool), v30 = .bool x30_5 ∧ Aside0 (lambrequinlaw13_PlanEarly.j0 kq t102 t104 t107 x30_5 a0_0 l0_1 l0_2 = some r) ∧ Aside0 (kq ≤ k) ∧ Aside0 (Kd.R (Kd.int .i64) 3 wc w.heap.size (fun _ => True) v105 t104) ∧ Aside0 (wc.heap[gb101]? = some (.cells #[.string a0_0, (.slice A0_1 l0_1.length c0_1), (.slice A0_2 l0_2.length c0_2)] 27 (0, 0))) ∧ Aside0 (Below w.heap.size w wc))
  case first =>
   have H := HC6.out
   clear HC6
   by_cases c13 : t107 = 0
   ·rw [if_pos c13] at H
    have c13b0 : (t107 == 0) = true := beq_iff_eq.mpr c13
    have c13b1 : (t107 != 0) = false := bne_eq_false_iff_eq.mpr c13
    clear c13
    (first | rw [c13b0] | (simp only [i64_w, i32_w]; rw [c13b0]) | skip)
    have H' := Aside0.mk H
    clear H
    obtain ⟨Ao14, co14, eo14⟩ := Kd.R_slice HO106.out
    subst eo14
    have hcz15_0 : w12.cell? ⟨gb101, 0, none⟩ = some (.string a0_0) := (blk_cell BK101.out 0).trans rfl
    have hcz15_1 : w12.cell? ⟨gb101, 1, none⟩ = some (.slice A0_1 l0_1.length c0_1) := (blk_cell BK101.out 1).trans rfl
    have hcz15_2 : w12.cell? ⟨gb101, 2, none⟩ = some (.slice A0_2 l0_2.length c0_2) := (blk_cell BK101.out 2).trans rfl
    have hfz15_0 := blk_frozen BK101.out 0
    have hfz15_1 := blk_frozen BK101.out 1
    have hfz15_2 := blk_frozen BK101.out 2
    go_wp2
    go_meet
    case rel => exact ⟨_, (((t104.length : Int) != (l0_2.length : Int))), (by first | rfl | (simp; done) | (simp [*]; done)), H', ⟨by first | omega | exact Nat.le_refl _⟩, ⟨by (with_reducible repeat (first | apply Kd.R_alloc | apply Kd.R_drewN | apply Kd.R_drew)); exact HO106.out⟩, ⟨by (with_reducible repeat (first | refine blk_drewN ?_ _ | refine blk_drew ?_ | refine blk_alloc ?_ _)); exact BK101.out⟩, ⟨by repeat (first | (with_reducible first | exact HB.out | apply below_alloc | apply pw_below_drewN | apply below_drew1 | refine below_set ?_ GE101.out) | exact HB.out)⟩⟩
   ·rw [if_neg c13] at H
    have c13b0 : (t107 == 0) = false := beq_eq_false_iff_ne.mpr c13
    have c13b1 : (t107 != 0) = true := bne_iff_ne.mpr c13
    (first | rw [c13b0] | (simp only [i64_w, i32_w]; rw [c13b0]) | skip)
    have H' := Aside0.mk H
    clear H
    go_wp2
    go_meet
    case rel => exact ⟨_, (true), (by first | rfl | (simp; done) | (simp [*]; done)), H', ⟨by first | omega | exact Nat.le_refl _⟩, ⟨by (with_reducible repeat (first | apply Kd.R_alloc | apply Kd.R_drewN | apply Kd.R_drew)); exact HO106.out⟩, ⟨by (with_reducible repeat (first | refine blk_drewN ?_ _ | refine blk_drew ?_ | refine blk_alloc ?_ _)); exact BK101.out⟩, ⟨by repeat (first | (with_reducible first | exact HB.out | apply below_alloc | apply pw_below_drewN | apply below_drew1 | refine below_set ?_ GE101.out) | exact HB.out)⟩⟩
  case rest =>
   clear HC6
   try clear c1
   try clear p2
   try clear c4
   try clear c5
   try clear c13
   try clear c13b0
   try clear c13b1
   try clear c15
   try clear hcz11_0
   try clear hcz11_1
   try clear hcz11_2
   try clear hcz15_0
   try clear hcz15_1
   try clear hcz15_2
   try clear hcz9_0
   try clear hcz9_1
   try clear hcz9_2
   try clear hfz11_0
   try clear hfz11_1
   try clear hfz11_2
   try clear hfz15_0
   try clear hfz15_1
   try clear hfz15_2
   try clear hfz9_0
   try clear hfz9_1
   try clear hfz9_2
   obtain ⟨kq, x30_5, rfl, HA, HJ5, HO_4, BK101, HB⟩ := hcut
   cases kq with
   | zero => exact absurd HA.out (by simp [lambrequinlaw13_PlanEarly.j0])
   | succ kj5 =>
    have H := HA.out
    clear HA
    simp only [lambrequinlaw13_PlanEarly.j0] at H
    by_cases c16 : x30_5 = true
    ·subst c16
     have H1 : (if t102 = true then (some (t107 != 0)) else (some false)) = some r := by rw [if_pos rfl] at H; exact H
     clear H
     have H := H1
     clear H1
     by_cases c17 : t102 = true
     ·subst c17
      have H1 : (some (t107 != 0)) = some r := by rw [if_pos rfl] at H; exact H
      clear H
      have H := H1
      clear H1
      obtain rfl := Option.some.inj H
      go_wp2
      go_ret
      exact ⟨by first | rfl | (simp [errW_none, errW_some] <;> rfl) | (simp [*, errW_none, errW_some] <;> rfl), by repeat (first | (with_reducible first | exact HB.out | apply below_alloc | apply pw_below_drewN | apply below_drew1 | refine below_set ?_ GE101.out) | exact HB.out)⟩
     ·replace c17 := Bool.eq_false_iff.mpr c17
      subst c17
      have H1 : (some false) = some r := by rw [if_neg (show ¬ (false = true) by decide)] at H; exact H
      clear H
      have H := H1
      clear H1
      obtain rfl := Option.some.inj H
      go_wp2
      go_ret
      exact ⟨by first | rfl | (simp [errW_none, errW_some] <;> rfl) | (simp [*, errW_none, errW_some] <;> rfl), by repeat (first | (with_reducible first | exact HB.out | apply below_alloc | apply pw_below_drewN | apply below_drew1 | refine below_set ?_ GE101.out) | exact HB.out)⟩
    ·replace c16 := Bool.eq_false_iff.mpr c16
     subst c16
     have H1 : (lambrequinlaw13_PlanEarly.l0 kj5 t102 t104 ([] : List ByteArray) 0 a0_0 l0_1 l0_2) = some r := by rw [if_neg (show ¬ (false = true) by decide)] at H; exact H
     clear H
     have H := H1
     clear H1
     have H' := Aside0.mk H
     clear H
     go_wp2
     go_loopg [6, 7] kj5 (fun kq v6 v7 w' => ∃ (x6_2 : List ByteArray) (x7_2 : Int), v7 = .int .i64 x7_2 ∧ Aside0 (lambrequinlaw13_PlanEarly.l0 kq t102 t104 x6_2 x7_2 a0_0 l0_1 l0_2 = some r) ∧ Aside0 (kq ≤ kj5) ∧ Aside0 (Kd.R (Kd.int .i64) 3 w' w.heap.size (fun _ => True) v105 t104) ∧ Aside0 (Kd.R Kd.string 9 w' w.heap.size (fun _ => True) v6 x6_2) ∧ Aside0 (w'.heap[gb101]? = some (.cells #[.string a0_0, (.slice A0_1 l0_1.length c0_1), (.slice A0_2 l0_2.length c0_2)] 27 (0, 0))) ∧ Aside0 (Below w.heap.size w w'))
     case atStart => exact ⟨(([] : List ByteArray)), (0), (by first | rfl | (simp; done) | (simp [*]; done)), H', ⟨Nat.le_refl _⟩, ⟨by (with_reducible repeat (first | apply Kd.R_alloc | apply Kd.R_drewN | apply Kd.R_drew)); exact HO_4.out⟩, ⟨by first | exact Kd.R_nil _ _ _ _ _ | exact Kd.N_nil _ _ _ _ _ | exact Kd.V_nil _ _ _ _ _ | exact Kd.Q_nil _ _ _ _ _ | exact Kd.S_nil _ _ _ _ _⟩, ⟨by (with_reducible repeat (first | refine blk_drewN ?_ _ | refine blk_drew ?_ | refine blk_alloc ?_ _)); exact BK101.out⟩, ⟨by repeat (first | (with_reducible first | exact HB.out | apply below_alloc | apply pw_below_drewN | apply below_drew1 | refine below_set ?_ GE101.out) | exact HB.out)⟩⟩
     case round =>
      clear H'
      try clear c1
      try clear p2
      try clear c4
      try clear c5
      try clear c13
      try clear c13b0
      try clear c13b1
      try clear c15
      try clear c16
      try clear c17
      try clear hcz11_0
      try clear hcz11_1
      try clear hcz11_2
      try clear hcz15_0
      try clear hcz15_1
      try clear hcz15_2
      try clear hcz9_0
      try clear hcz9_1
      try clear hcz9_2
      try clear hfz11_0
      try clear hfz11_1
      try clear hfz11_2
      try clear hfz15_0
      try clear hfz15_1
      try clear hfz15_2
      try clear hfz9_0
      try clear hfz9_1
      try clear hfz9_2
      try clear p2
      obtain ⟨x6_2, x7_2, rfl, HA, HK2, HO_4, HO_6, BK101, HB⟩ := hrel
      cases gk with
      | zero => exact absurd HA.out (by simp [lambrequinlaw13_PlanEarly.l0])
      | succ k2 =>
       have H := HA.out
       clear HA
       simp only [lambrequinlaw13_PlanEarly.l0] at H
       by_cases c18 : x7_2 < (t104.length : Int)
       ·rw [if_pos c18] at H
        have c18b0 : decide (x7_2 < (t104.length : Int)) = true := decide_eq_true c18
        clear c18
        have HC19 := Aside0.mk H
        clear H
        obtain ⟨Ao20, co20, eo20⟩ := Kd.R_slice HO_4.out
        subst eo20
        go_upto_region 11 with (fail)
        go_cut [56] (fun v56 wc => ∃ (kq : Nat) (x56_18 : Bool), v56 = .bool x56_18 ∧ Aside0 (lambrequinlaw13_PlanEarly.j2 kq t102 t104 x6_2 x7_2 x56_18 a0_0 l0_1 l0_2 = some r) ∧ Aside0 (kq ≤ k2) ∧ Aside0 (Kd.R (Kd.int .i64) 3 wc w.heap.size (fun _ => True) (.slice Ao20 t104.length co20) t104) ∧ Aside0 (Kd.R Kd.string 9 wc w.heap.size (fun _ => True) u6 x6_2) ∧ Aside0 (wc.heap[gb101]? = some (.cells #[.string a0_0, (.slice A0_1 l0_1.length c0_1), (.slice A0_2 l0_2.length c0_2)] 27 (0, 0))) ∧ Aside0 (Below w.heap.size w wc))
        case first =>
         have H := HC19.out
         clear HC19
         by_cases c21 : 0 ≤ x7_2
         ·rw [if_pos c21] at H
          have c21b0 : decide (0 ≤ x7_2) = true := decide_eq_true c21
          clear c21
          (first | rw [c21b0] | (simp only [i64_w, i32_w]; rw [c21b0]) | skip)
          by_cases c22 : (rd t104 x7_2) < 0
          ·rw [if_pos c22] at H
           have c22b0 : decide ((rd t104 x7_2) < 0) = true := decide_eq_true c22
           clear c22
           have H' := Aside0.mk H
           clear H
           try go_wp2
           have n0_ := Aside0.mk (Kd.R_drew HO_4.out)
           have n1_ := Aside0.mk (Kd.R_drew HO_6.out)
           have n2_ := Aside0.mk (blk_drew BK101.out)
           have n3_ := Aside0.mk (below_drew1 HB.out)
           clear HO_4
           clear HO_6
           clear BK101
           clear HB
           have HO_4 := n0_
           have HO_6 := n1_
           have BK101 := n2_
           have HB := n3_
           clear n0_ n1_ n2_ n3_
           have p108 : 0 ≤ (x7_2 : Int) := of_decide_eq_true (by first | (with_reducible assumption) | assumption)
           have q108 : x7_2 < (t104.length : Int) := of_decide_eq_true (by first | (with_reducible assumption) | assumption)
           obtain ⟨ad108, e108, hx108_0⟩ := Kd.at_int (Kd.R_reads' HO_4.out).2.2 x7_2 p108 q108
           cases e108
           replace p108 := eq_true p108
           replace q108 := eq_true q108
           refine start_ (n := 15) (S := fun w' => w'.cell? (ad108.add (x7_2).toNat) = some (.int .i64 (rd t104 x7_2))) (ds := []) #[false, false, false, false, false, false, false, false, false, false, false, false, false, false, false] (by kernel_rfl) rfl rfl (hx108_0) (fun hHeld => ?_); refine with_tabW lambrequinlaw13_PlanEarly.tab11 lambrequinlaw13_PlanEarly.bits11 (fun HT_ HW_ => ?_)
           generalize wr.drew = w23 at HO_4 HO_6 BK101 HB hx108_0 hHeld ⊢
           refine pure_ (i := 0) (N := some 42) (v := ?_) (a' := ?_) #[true, false, false, false, false, false, false, false, false, false, false, false, false, false, false] rfl rfl (any_of HT_.out (by kernel_rfl)) (fun _ _ _ h => h) (Or.inl ⟨by rfl, ?_⟩) ?_ ?_
           rotate_left
           ·intro w'
            go_simp
            with_reducible rfl
           rotate_left
           ·simp only [Act.put, List.setIfInBounds_toArray, List.set_cons_zero, List.set_cons_succ, i64_w, i32_w]
            rfl
           refine pure_ (i := 1) (N := some 43) (v := ?_) (a' := ?_) #[true, true, false, false, false, false, false, false, false, false, false, false, false, false, false] rfl rfl (any_of HT_.out (by kernel_rfl)) (fun _ _ _ h => h) (Or.inl ⟨by rfl, ?_⟩) ?_ ?_
           rotate_left
           ·intro w'
            go_simp
            with_reducible rfl
           rotate_left
           ·simp only [Act.put, List.setIfInBounds_toArray, List.set_cons_zero, List.set_cons_succ, i64_w, i32_w]
            rfl
           refine pure_ (i := 2) (N := some 44) (v := ?_) (a' := ?_) #[true, true, true, false, false, false, false, false, false, false, false, false, false, false, false] rfl rfl (any_of HT_.out (by kernel_rfl)) (fun _ _ _ h => h) (Or.inl ⟨by rfl, ?_⟩) ?_ ?_
           rotate_left
           ·intro w'
            go_simp
            with_reducible rfl
           rotate_left
           ·simp only [Act.put, List.setIfInBounds_toArray, List.set_cons_zero, List.set_cons_succ, i64_w, i32_w]
            rfl
           refine take_ (i := 3) (N := some 45) (v := ?_) (a' := ?_) #[true, true, true, true, false, false, false, false, false, false, false, false, false, false, false] rfl rfl (take_ofW HT_.out HW_.out (by kernel_rfl)) (fun _ _ _ h => h) (Or.inl ⟨by rfl, ?_⟩) hHeld ?_ ?_
           rotate_left
           ·intro w' s0
            go_simp
            with_reducible rfl
           rotate_left
           ·simp only [Act.put, List.setIfInBounds_toArray, List.set_cons_zero, List.set_cons_succ, i64_w, i32_w]
            rfl
           refine pure_ (i := 4) (N := some 46) (v := ?_) (a' := ?_) #[true, true, true, true, true, false, false, false, false, false, false, false, false, false, false] rfl rfl (any_of HT_.out (by kernel_rfl)) (fun _ _ _ h => h) (Or.inl ⟨by rfl, ?_⟩) ?_ ?_
           rotate_left
           ·intro w'
            go_simp
            with_reducible rfl
           rotate_left
           ·simp only [Act.put, List.setIfInBounds_toArray, List.set_cons_zero, List.set_cons_succ, i64_w, i32_w]
            rfl
           refine pure_ (i := 5) (N := some 47) (v := ?_) (a' := ?_) #[true, true, true, true, true, true, false, false, false, false, false, false, false, false, false] rfl rfl (any_of HT_.out (by kernel_rfl)) (fun _ _ _ h => h) (Or.inl ⟨by rfl, ?_⟩) ?_ ?_
           rotate_left
           ·intro w'
            go_simp
            with_reducible rfl
           rotate_left
           ·simp only [Act.put, List.setIfInBounds_toArray, List.set_cons_zero, List.set_cons_succ, i64_w, i32_w]
            rfl
           refine pure_ (i := 6) (N := some 48) (v := undef) (a' := ?_) #[true, true, true, true, true, true, true, false, false, false, false, false, false, false, false] rfl rfl (any_of HT_.out (by kernel_rfl)) (fun _ _ _ h => h) (Or.inr ⟨by rfl, rfl⟩) ?_ ?_
           rotate_left
           ·simp only [Act.put, List.setIfInBounds_toArray, List.set_cons_zero, List.set_cons_succ, i64_w, i32_w]
            rfl
           refine pure_ (i := 7) (N := some 49) (v := undef) (a' := ?_) #[true, true, true, true, true, true, true, true, false, false, false, false, false, false, false] rfl rfl (any_of HT_.out (by kernel_rfl)) (fun _ _ _ h => h) (Or.inr ⟨by rfl, rfl⟩) ?_ ?_
           rotate_left
           ·simp only [Act.put, List.setIfInBounds_toArray, List.set_cons_zero, List.set_cons_succ, i64_w, i32_w]
            rfl
           refine pure_ (i := 8) (N := some 50) (v := undef) (a' := ?_) #[true, true, true, true, true, true, true, true, true, false, false, false, false, false, false] rfl rfl (any_of HT_.out (by kernel_rfl)) (fun _ _ _ h => h) (Or.inr ⟨by rfl, rfl⟩) ?_ ?_
           rotate_left
           ·simp only [Act.put, List.setIfInBounds_toArray, List.set_cons_zero, List.set_cons_succ, i64_w, i32_w]
            rfl
           refine pure_ (i := 9) (N := some 51) (v := undef) (a' := ?_) #[true, true, true, true, true, true, true, true, true, true, false, false, false, false, false] rfl rfl (any_of HT_.out (by kernel_rfl)) (fun _ _ _ h => h) (Or.inr ⟨by rfl, rfl⟩) ?_ ?_
           rotate_left
           ·simp only [Act.put, List.setIfInBounds_toArray, List.set_cons_zero, List.set_cons_succ, i64_w, i32_w]
            rfl
           refine pure_ (i := 10) (N := some 52) (v := undef) (a' := ?_) #[true, true, true, true, true, true, true, true, true, true, true, false, false, false, false] rfl rfl (any_of HT_.out (by kernel_rfl)) (fun _ _ _ h => h) (Or.inr ⟨by rfl, rfl⟩) ?_ ?_
           rotate_left
           ·simp only [Act.put, List.setIfInBounds_toArray, List.set_cons_zero, List.set_cons_succ, i64_w, i32_w]
            rfl
           refine pure_ (i := 11) (N := some 53) (v := undef) (a' := ?_) #[true, true, true, true, true, true, true, true, true, true, true, true, false, false, false] rfl rfl (any_of HT_.out (by kernel_rfl)) (fun _ _ _ h => h) (Or.inr ⟨by rfl, rfl⟩) ?_ ?_
           rotate_left
           ·simp only [Act.put, List.setIfInBounds_toArray, List.set_cons_zero, List.set_cons_succ, i64_w, i32_w]
            rfl
           refine pure_ (i := 12) (N := some 54) (v := undef) (a' := ?_) #[true, true, true, true, true, true, true, true, true, true, true, true, true, false, false] rfl rfl (any_of HT_.out (by kernel_rfl)) (fun _ _ _ h => h) (Or.inr ⟨by rfl, rfl⟩) ?_ ?_
           rotate_left
           ·simp only [Act.put, List.setIfInBounds_toArray, List.set_cons_zero, List.set_cons_succ, i64_w, i32_w]
            rfl
           refine pure_ (i := 13) (N := some 55) (v := undef) (a' := ?_) #[true, true, true, true, true, true, true, true, true, true, true, true, true, true, false] rfl rfl (any_of HT_.out (by kernel_rfl)) (fun _ _ _ h => h) (Or.inr ⟨by rfl, rfl⟩) ?_ ?_
           rotate_left
           ·simp only [Act.put, List.setIfInBounds_toArray, List.set_cons_zero, List.set_cons_succ, i64_w, i32_w]
            rfl
           refine pure_ (i := 14) (N := some 56) (v := ?_) (a' := ?_) #[true, true, true, true, true, true, true, true, true, true, true, true, true, true, true] rfl rfl (any_of HT_.out (by kernel_rfl)) (fun _ _ _ h => h) (Or.inl ⟨by rfl, ?_⟩) ?_ ?_
           rotate_left
           ·intro w'
            go_simp
            with_reducible rfl
           rotate_left
           ·simp only [Act.put, List.setIfInBounds_toArray, List.set_cons_zero, List.set_cons_succ, i64_w, i32_w]
            rfl
           refine done_ (done_of HT_.out (by kernel_rfl)) ?_
           try go_wp2
           go_meet
           case rel => exact ⟨_, (true), (by first | rfl | (simp; done) | (simp [*]; done)), H', ⟨by have := HJ5.out; have := HK2.out; first | omega | exact Nat.le_refl _⟩, ⟨by (with_reducible repeat (first | apply Kd.R_alloc | apply Kd.R_drewN | apply Kd.R_drew)); exact HO_4.out⟩, ⟨by (with_reducible repeat (first | apply Kd.R_alloc | apply Kd.R_drewN | apply Kd.R_drew)); exact HO_6.out⟩, ⟨by (with_reducible repeat (first | refine blk_drewN ?_ _ | refine blk_drew ?_ | refine blk_alloc ?_ _)); exact BK101.out⟩, ⟨by repeat (first | (with_reducible first | exact HB.out | apply below_alloc | apply pw_below_drewN | apply below_drew1 | refine below_set ?_ GE101.out) | exact HB.out)⟩⟩
          ·rw [if_neg c22] at H
           have c22b0 : decide ((rd t104 x7_2) < 0) = false := decide_eq_false c22
           clear c22
           have H' := Aside0.mk H
           clear H
           try go_wp2
           have n0_ := Aside0.mk (Kd.R_drew HO_4.out)
           have n1_ := Aside0.mk (Kd.R_drew HO_6.out)
           have n2_ := Aside0.mk (blk_drew BK101.out)
           have n3_ := Aside0.mk (below_drew1 HB.out)
           clear HO_4
           clear HO_6
           clear BK101
           clear HB
           have HO_4 := n0_
           have HO_6 := n1_
           have BK101 := n2_
           have HB := n3_
           clear n0_ n1_ n2_ n3_
           have p108 : 0 ≤ (x7_2 : Int) := of_decide_eq_true (by first | (with_reducible assumption) | assumption)
           have q108 : x7_2 < (t104.length : Int) := of_decide_eq_true (by first | (with_reducible assumption) | assumption)
           obtain ⟨ad108, e108, hx108_0⟩ := Kd.at_int (Kd.R_reads' HO_4.out).2.2 x7_2 p108 q108
           cases e108
           replace p108 := eq_true p108
           replace q108 := eq_true q108
           have p109 : 0 ≤ (x7_2 : Int) := of_decide_eq_true (by first | (with_reducible assumption) | assumption)
           have q109 : x7_2 < (t104.length : Int) := of_decide_eq_true (by first | (with_reducible assumption) | assumption)
           obtain ⟨ad109, e109, hx109_0⟩ := Kd.at_int (Kd.R_reads' HO_4.out).2.2 x7_2 p109 q109
           obtain rfl : ad108 = ad109 := (by injection e109)
           replace p109 := eq_true p109
           replace q109 := eq_true q109
           refine start_ (n := 15) (S := fun w' => w'.cell? ⟨gb101, 0, none⟩ = some (.string a0_0) ∧ w'.cell? ⟨gb101, 1, none⟩ = some (.slice A0_1 l0_1.length c0_1) ∧ w'.cell? ⟨gb101, 2, none⟩ = some (.slice A0_2 l0_2.length c0_2) ∧ w'.cell? (ad108.add (x7_2).toNat) = some (.int .i64 (rd t104 x7_2)) ∧ w'.cell? (ad108.add (x7_2).toNat) = some (.int .i64 (rd t104 x7_2))) (ds := []) #[false, false, false, false, false, false, false, false, false, false, false, false, false, false, false] (by kernel_rfl) rfl rfl ⟨(blk_cell BK101.out 0).trans rfl, (blk_cell BK101.out 1).trans rfl, (blk_cell BK101.out 2).trans rfl, hx108_0, hx109_0⟩ (fun hHeld => ?_); refine with_tabW lambrequinlaw13_PlanEarly.tab11 lambrequinlaw13_PlanEarly.bits11 (fun HT_ HW_ => ?_)
           generalize wr.drew = w24 at HO_4 HO_6 BK101 HB hx108_0 hx109_0 hHeld ⊢
           refine pure_ (i := 0) (N := some 42) (v := ?_) (a' := ?_) #[true, false, false, false, false, false, false, false, false, false, false, false, false, false, false] rfl rfl (any_of HT_.out (by kernel_rfl)) (fun _ _ _ h => h) (Or.inl ⟨by rfl, ?_⟩) ?_ ?_
           rotate_left
           ·intro w'
            go_simp
            with_reducible rfl
           rotate_left
           ·simp only [Act.put, List.setIfInBounds_toArray, List.set_cons_zero, List.set_cons_succ, i64_w, i32_w]
            rfl
           refine pure_ (i := 1) (N := some 43) (v := ?_) (a' := ?_) #[true, true, false, false, false, false, false, false, false, false, false, false, false, false, false] rfl rfl (any_of HT_.out (by kernel_rfl)) (fun _ _ _ h => h) (Or.inl ⟨by rfl, ?_⟩) ?_ ?_
           rotate_left
           ·intro w'
            go_simp
            with_reducible rfl
           rotate_left
           ·simp only [Act.put, List.setIfInBounds_toArray, List.set_cons_zero, List.set_cons_succ, i64_w, i32_w]
            rfl
           refine pure_ (i := 2) (N := some 44) (v := ?_) (a' := ?_) #[true, true, true, false, false, false, false, false, false, false, false, false, false, false, false] rfl rfl (any_of HT_.out (by kernel_rfl)) (fun _ _ _ h => h) (Or.inl ⟨by rfl, ?_⟩) ?_ ?_
           rotate_left
           ·intro w'
            go_simp
            with_reducible rfl
           rotate_left
           ·simp only [Act.put, List.setIfInBounds_toArray, List.set_cons_zero, List.set_cons_succ, i64_w, i32_w]
            rfl
           refine take_ (i := 3) (N := some 45) (v := ?_) (a' := ?_) #[true, true, true, true, false, false, false, false, false, false, false, false, false, false, false] rfl rfl (take_ofW HT_.out HW_.out (by kernel_rfl)) (fun _ _ _ h => h) (Or.inl ⟨by rfl, ?_⟩) hHeld ?_ ?_
           rotate_left
           ·rintro w' ⟨s0, s1, s2, s3, s4⟩
            go_simp
            with_reducible rfl
           rotate_left
           ·simp only [Act.put, List.setIfInBounds_toArray, List.set_cons_zero, List.set_cons_succ, i64_w, i32_w]
            rfl
           refine pure_ (i := 4) (N := some 46) (v := ?_) (a' := ?_) #[true, true, true, true, true, false, false, false, false, false, false, false, false, false, false] rfl rfl (any_of HT_.out (by kernel_rfl)) (fun _ _ _ h => h) (Or.inl ⟨by rfl, ?_⟩) ?_ ?_
           rotate_left
           ·intro w'
            go_simp
            with_reducible rfl
           rotate_left
           ·simp only [Act.put, List.setIfInBounds_toArray, List.set_cons_zero, List.set_cons_succ, i64_w, i32_w]
            rfl
           refine pure_ (i := 5) (N := some 47) (v := ?_) (a' := ?_) #[true, true, true, true, true, true, false, false, false, false, false, false, false, false, false] rfl rfl (any_of HT_.out (by kernel_rfl)) (fun _ _ _ h => h) (Or.inl ⟨by rfl, ?_⟩) ?_ ?_
           rotate_left
           ·intro w'
            go_simp
            with_reducible rfl
           rotate_left
           ·simp only [Act.put, List.setIfInBounds_toArray, List.set_cons_zero, List.set_cons_succ, i64_w, i32_w]
            rfl
           refine pure_ (i := 6) (N := some 48) (v := ?_) (a' := ?_) #[true, true, true, true, true, true, true, false, false, false, false, false, false, false, false] rfl rfl (any_of HT_.out (by kernel_rfl)) (fun _ _ _ h => h) (Or.inl ⟨by rfl, ?_⟩) ?_ ?_
           rotate_left
           ·intro w'
            go_simp
            with_reducible rfl
           rotate_left
           ·simp only [Act.put, List.setIfInBounds_toArray, List.set_cons_zero, List.set_cons_succ, i64_w, i32_w]
            rfl
           refine pure_ (i := 7) (N := some 49) (v := ?_) (a' := ?_) #[true, true, true, true, true, true, true, true, false, false, false, false, false, false, false] rfl rfl (any_of HT_.out (by kernel_rfl)) (fun _ _ _ h => h) (Or.inl ⟨by rfl, ?_⟩) ?_ ?_
           rotate_left
           ·intro w'
            go_simp
            with_reducible rfl
           rotate_left
           ·simp only [Act.put, List.setIfInBounds_toArray, List.set_cons_zero, List.set_cons_succ, i64_w, i32_w]
            rfl
           refine pure_ (i := 8) (N := some 50) (v := ?_) (a' := ?_) #[true, true, true, true, true, true, true, true, true, false, false, false, false, false, false] rfl rfl (any_of HT_.out (by kernel_rfl)) (fun _ _ _ h => h) (Or.inl ⟨by rfl, ?_⟩) ?_ ?_
           rotate_left
           ·intro w'
            go_simp
            with_reducible rfl
           rotate_left
           ·simp only [Act.put, List.setIfInBounds_toArray, List.set_cons_zero, List.set_cons_succ, i64_w, i32_w]
            rfl
           refine pure_ (i := 10) (N := some 52) (v := ?_) (a' := ?_) #[true, true, true, true, true, true, true, true, true, false, true, false, false, false, false] rfl rfl (any_of HT_.out (by kernel_rfl)) (fun _ _ _ h => h) (Or.inl ⟨by rfl, ?_⟩) ?_ ?_
           rotate_left
           ·intro w'
            go_simp
            with_reducible rfl
           rotate_left
           ·simp only [Act.put, List.setIfInBounds_toArray, List.set_cons_zero, List.set_cons_succ, i64_w, i32_w]
            rfl
           refine take_ (i := 9) (N := some 51) (v := ?_) (a' := ?_) #[true, true, true, true, true, true, true, true, true, true, true, false, false, false, false] rfl rfl (take_ofW HT_.out HW_.out (by kernel_rfl)) (fun _ _ _ h => h) (Or.inl ⟨by rfl, ?_⟩) hHeld ?_ ?_
           rotate_left
           ·rintro w' ⟨s0, s1, s2, s3, s4⟩
            go_simp
            with_reducible rfl
           rotate_left
           ·simp only [Act.put, List.setIfInBounds_toArray, List.set_cons_zero, List.set_cons_succ, i64_w, i32_w]
            rfl
           refine take_ (i := 11) (N := some 53) (v := ?_) (a' := ?_) #[true, true, true, true, true, true, true, true, true, true, true, true, false, false, false] rfl rfl (take_ofW HT_.out HW_.out (by kernel_rfl)) (fun _ _ _ h => h) (Or.inl ⟨by rfl, ?_⟩) hHeld ?_ ?_
           rotate_left
           ·rintro w' ⟨s0, s1, s2, s3, s4⟩
            go_simp
            with_reducible rfl
           rotate_left
           ·simp only [Act.put, List.setIfInBounds_toArray, List.set_cons_zero, List.set_cons_succ, i64_w, i32_w]
            rfl
           refine pure_ (i := 12) (N := some 54) (v := ?_) (a' := ?_) #[true, true, true, true, true, true, true, true, true, true, true, true, true, false, false] rfl rfl (any_of HT_.out (by kernel_rfl)) (fun _ _ _ h => h) (Or.inl ⟨by rfl, ?_⟩) ?_ ?_
           rotate_left
           ·intro w'
            go_simp
            with_reducible rfl
           rotate_left
           ·simp only [Act.put, List.setIfInBounds_toArray, List.set_cons_zero, List.set_cons_succ, i64_w, i32_w]
            rfl
           refine pure_ (i := 13) (N := some 55) (v := ?_) (a' := ?_) #[true, true, true, true, true, true, true, true, true, true, true, true, true, true, false] rfl rfl (any_of HT_.out (by kernel_rfl)) (fun _ _ _ h => h) (Or.inl ⟨by rfl, ?_⟩) ?_ ?_
           rotate_left
           ·intro w'
            go_simp
            with_reducible rfl
           rotate_left
           ·simp only [Act.put, List.setIfInBounds_toArray, List.set_cons_zero, List.set_cons_succ, i64_w, i32_w]
            rfl
           refine pure_ (i := 14) (N := some 56) (v := ?_) (a' := ?_) #[true, true, true, true, true, true, true, true, true, true, true, true, true, true, true] rfl rfl (any_of HT_.out (by kernel_rfl)) (fun _ _ _ h => h) (Or.inl ⟨by rfl, ?_⟩) ?_ ?_
           rotate_left
           ·intro w'
            go_simp
            with_reducible rfl
           rotate_left
           ·simp only [Act.put, List.setIfInBounds_toArray, List.set_cons_zero, List.set_cons_succ, i64_w, i32_w]
            rfl
           refine done_ (done_of HT_.out (by kernel_rfl)) ?_
           try go_wp2
           go_meet
           case rel => exact ⟨_, (decide ((rd t104 x7_2) ≥ (l0_2.length : Int))), (by first | rfl | (simp; done) | (simp [*]; done)), H', ⟨by have := HJ5.out; have := HK2.out; first | omega | exact Nat.le_refl _⟩, ⟨by (with_reducible repeat (first | apply Kd.R_alloc | apply Kd.R_drewN | apply Kd.R_drew)); exact HO_4.out⟩, ⟨by (with_reducible repeat (first | apply Kd.R_alloc | apply Kd.R_drewN | apply Kd.R_drew)); exact HO_6.out⟩, ⟨by (with_reducible repeat (first | refine blk_drewN ?_ _ | refine blk_drew ?_ | refine blk_alloc ?_ _)); exact BK101.out⟩, ⟨by repeat (first | (with_reducible first | exact HB.out | apply below_alloc | apply pw_below_drewN | apply below_drew1 | refine below_set ?_ GE101.out) | exact HB.out)⟩⟩
         ·rw [if_neg c21] at H
          exact absurd H (by simp)
        case rest =>
         clear HC19
         try clear c1
         try clear p1
         try clear q1
         try clear hx1
         try clear c2
         try clear p2
         try clear c4
         try clear c5
         try clear p10
         try clear q10
         try clear hx10
         try clear c13
         try clear c13b0
         try clear c13b1
         try clear c15
         try clear c16
         try clear c17
         try clear c18
         try clear c18b0
         try clear c21
         try clear c21b0
         try clear c22
         try clear c22b0
         try clear hcz11_0
         try clear hcz11_1
         try clear hcz11_2
         try clear hcz15_0
         try clear hcz15_1
         try clear hcz15_2
         try clear hcz9_0
         try clear hcz9_1
         try clear hcz9_2
         try clear hfz11_0
         try clear hfz11_1
         try clear hfz11_2
         try clear hfz15_0
         try clear hfz15_1
         try clear hfz15_2
         try clear hfz9_0
         try clear hfz9_1
         try clear hfz9_2
         try clear hx108_0
         try clear hx109_0
         try clear p108
         try clear p109
         try clear p2
         try clear q108
         try clear q109
         obtain ⟨kq, x56_18, rfl, HA, HJ18, HO_4, HO_6, BK101, HB⟩ := hcut
         cases kq with
         | zero => exact absurd HA.out (by simp [lambrequinlaw13_PlanEarly.j2])
         | succ kj18 =>
          have H := HA.out
          clear HA
          simp only [lambrequinlaw13_PlanEarly.j2] at H
          by_cases c25 : x56_18 = true
          ·subst c25
           have H1 : (some false) = some r := by rw [if_pos rfl] at H; exact H
           clear H
           have H := H1
           clear H1
           obtain rfl := Option.some.inj H
           go_wp2
           go_ret
           exact ⟨by first | rfl | (simp [errW_none, errW_some] <;> rfl) | (simp [*, errW_none, errW_some] <;> rfl), by repeat (first | (with_reducible first | exact HB.out | apply below_alloc | apply pw_below_drewN | apply below_drew1 | refine below_set ?_ GE101.out) | exact HB.out)⟩
          ·replace c25 := Bool.eq_false_iff.mpr c25
           subst c25
           have H1 : (if 0 ≤ x7_2 then (if x7_2 < (t104.length : Int) then (if 0 ≤ (rd t104 x7_2) then (if (rd t104 x7_2) < (l0_2.length : Int) then (if ((rd_T47 l0_2 (rd t104 x7_2)).kind) = 1 then (lambrequinlaw13_PlanEarly.l1 kj18 t102 t104 x6_2 x7_2 (wrap64 (x7_2 + 1)) a0_0 l0_1 l0_2 ((rd_T47 l0_2 (rd t104 x7_2)).kind) ((rd_T47 l0_2 (rd t104 x7_2)).atom.pred) ((rd_T47 l0_2 (rd t104 x7_2)).atom.args) ((rd_T47 l0_2 (rd t104 x7_2)).op) ((rd_T47 l0_2 (rd t104 x7_2)).l.isVar) ((rd_T47 l0_2 (rd t104 x7_2)).l.name) ((rd_T47 l0_2 (rd t104 x7_2)).l.val.isSym) ((rd_T47 l0_2 (rd t104 x7_2)).l.val.sym) ((rd_T47 l0_2 (rd t104 x7_2)).l.val.n) ((rd_T47 l0_2 (rd t104 x7_2)).r.isVar) ((rd_T47 l0_2 (rd t104 x7_2)).r.name) ((rd_T47 l0_2 (rd t104 x7_2)).r.val.isSym) ((rd_T47 l0_2 (rd t104 x7_2)).r.val.sym) ((rd_T47 l0_2 (rd t104 x7_2)).r.val.n)) else (lambrequinlaw13_PlanEarly.l0 kj18 t102 t104 x6_2 (wrap64 (x7_2 + 1)) a0_0 l0_1 l0_2)) else (none)) else (none)) else (none)) else (none)) = some r := by rw [if_neg (show ¬ (false = true) by decide)] at H; exact H
           clear H
           have H := H1
           clear H1
           by_cases c26 : 0 ≤ x7_2
           ·rw [if_pos c26] at H
            have c26b0 : decide (0 ≤ x7_2) = true := decide_eq_true c26
            clear c26
            by_cases c27 : x7_2 < (t104.length : Int)
            ·rw [if_pos c27] at H
             have c27b0 : decide (x7_2 < (t104.length : Int)) = true := decide_eq_true c27
             clear c27
             by_cases c28 : 0 ≤ (rd t104 x7_2)
             ·rw [if_pos c28] at H
              have c28b0 : decide (0 ≤ (rd t104 x7_2)) = true := decide_eq_true c28
              clear c28
              by_cases c29 : (rd t104 x7_2) < (l0_2.length : Int)
              ·rw [if_pos c29] at H
               have c29b0 : decide ((rd t104 x7_2) < (l0_2.length : Int)) = true := decide_eq_true c29
               clear c29
               by_cases c30 : ((rd_T47 l0_2 (rd t104 x7_2)).kind) = 1
               ·rw [if_pos c30] at H
                have c30b0 : (((rd_T47 l0_2 (rd t104 x7_2)).kind) == 1) = true := beq_iff_eq.mpr c30
                have c30b1 : (((rd_T47 l0_2 (rd t104 x7_2)).kind) != 1) = false := bne_eq_false_iff_eq.mpr c30
                clear c30
                have H' := Aside0.mk H
                clear H
                try go_wp2
                have n0_ := Aside0.mk (Kd.R_drew HO_4.out)
                have n1_ := Aside0.mk (Kd.R_drew HO_6.out)
                have n2_ := Aside0.mk (blk_drew BK101.out)
                have n3_ := Aside0.mk (below_drew1 HB.out)
                clear HO_4
                clear HO_6
                clear BK101
                clear HB
                have HO_4 := n0_
                have HO_6 := n1_
                have BK101 := n2_
                have HB := n3_
                clear n0_ n1_ n2_ n3_
                have p110 : 0 ≤ (x7_2 : Int) := of_decide_eq_true (by first | (with_reducible assumption) | assumption)
                have q110 : x7_2 < (t104.length : Int) := of_decide_eq_true (by first | (with_reducible assumption) | assumption)
                obtain ⟨ad110, e110, hx110_0⟩ := Kd.at_int (Kd.R_reads' HO_4.out).2.2 x7_2 p110 q110
                cases e110
                replace p110 := eq_true p110
                replace q110 := eq_true q110
                have p111 : 0 ≤ ((rd t104 x7_2) : Int) := of_decide_eq_true (by first | (with_reducible assumption) | assumption)
                have q111 : (rd t104 x7_2) < (l0_2.length : Int) := of_decide_eq_true (by first | (with_reducible assumption) | assumption)
                obtain ⟨ad111, A111_2, c111_2, e111, hx111_0, hx111_1, hx111_2, hx111_3, hx111_4, hx111_5, hx111_6, hx111_7, hx111_8, hx111_9, hx111_10, hx111_11, hx111_12, hx111_13, hl111_2, hi111_2⟩ := at_T47 HR0_2.out (rd t104 x7_2) p111 q111
                have hw111_13 := hx111_13
                have hw111_12 := hx111_12
                have hw111_11 := hx111_11
                have hw111_10 := hx111_10
                have hw111_9 := hx111_9
                have hw111_8 := hx111_8
                have hw111_7 := hx111_7
                have hw111_6 := hx111_6
                have hw111_5 := hx111_5
                have hw111_4 := hx111_4
                have hw111_3 := hx111_3
                have hw111_2 := hx111_2
                have hw111_1 := hx111_1
                have hw111_0 := hx111_0
                cases e111
                replace hx111_0 := (HB.out.cell (blt_ hx111_0)).trans hx111_0
                replace hx111_1 := (HB.out.cell (blt_ hx111_1)).trans hx111_1
                replace hx111_2 := (HB.out.cell (blt_ hx111_2)).trans hx111_2
                replace hx111_3 := (HB.out.cell (blt_ hx111_3)).trans hx111_3
                replace hx111_4 := (HB.out.cell (blt_ hx111_4)).trans hx111_4
                replace hx111_5 := (HB.out.cell (blt_ hx111_5)).trans hx111_5
                replace hx111_6 := (HB.out.cell (blt_ hx111_6)).trans hx111_6
                replace hx111_7 := (HB.out.cell (blt_ hx111_7)).trans hx111_7
                replace hx111_8 := (HB.out.cell (blt_ hx111_8)).trans hx111_8
                replace hx111_9 := (HB.out.cell (blt_ hx111_9)).trans hx111_9
                replace hx111_10 := (HB.out.cell (blt_ hx111_10)).trans hx111_10
                replace hx111_11 := (HB.out.cell (blt_ hx111_11)).trans hx111_11
                replace hx111_12 := (HB.out.cell (blt_ hx111_12)).trans hx111_12
                replace hx111_13 := (HB.out.cell (blt_ hx111_13)).trans hx111_13
                have HR111_2 := Aside0.mk hi111_2
                have HC111_2 := Aside0.mk hl111_2
                clear hi111_2 hl111_2
                replace p111 := eq_true p111
                replace q111 := eq_true q111
                refine start_ (n := 10) (S := fun w' => w'.cell? ⟨gb101, 0, none⟩ = some (.string a0_0) ∧ w'.cell? ⟨gb101, 1, none⟩ = some (.slice A0_1 l0_1.length c0_1) ∧ w'.cell? ⟨gb101, 2, none⟩ = some (.slice (some ad111) l0_2.length c0_2) ∧ w'.cell? (ad110.add (x7_2).toNat) = some (.int .i64 (rd t104 x7_2)) ∧ w'.cell? (ad111.add (((rd t104 x7_2)).toNat * 14)) = some (.int .i64 ((rd_T47 l0_2 (rd t104 x7_2)).kind)) ∧ w'.cell? ⟨(ad111.add (((rd t104 x7_2)).toNat * 14)).block, (ad111.add (((rd t104 x7_2)).toNat * 14)).off + 1, none⟩ = some (.string ((rd_T47 l0_2 (rd t104 x7_2)).atom.pred)) ∧ w'.cell? ⟨(ad111.add (((rd t104 x7_2)).toNat * 14)).block, (ad111.add (((rd t104 x7_2)).toNat * 14)).off + 2, none⟩ = some (.slice A111_2 ((rd_T47 l0_2 (rd t104 x7_2)).atom.args).length c111_2) ∧ w'.cell? ⟨(ad111.add (((rd t104 x7_2)).toNat * 14)).block, (ad111.add (((rd t104 x7_2)).toNat * 14)).off + 3, none⟩ = some (.string ((rd_T47 l0_2 (rd t104 x7_2)).op)) ∧ w'.cell? ⟨(ad111.add (((rd t104 x7_2)).toNat * 14)).block, (ad111.add (((rd t104 x7_2)).toNat * 14)).off + 4, none⟩ = some (.bool ((rd_T47 l0_2 (rd t104 x7_2)).l.isVar)) ∧ w'.cell? ⟨(ad111.add (((rd t104 x7_2)).toNat * 14)).block, (ad111.add (((rd t104 x7_2)).toNat * 14)).off + 5, none⟩ = some (.string ((rd_T47 l0_2 (rd t104 x7_2)).l.name)) ∧ w'.cell? ⟨(ad111.add (((rd t104 x7_2)).toNat * 14)).block, (ad111.add (((rd t104 x7_2)).toNat * 14)).off + 6, none⟩ = some (.bool ((rd_T47 l0_2 (rd t104 x7_2)).l.val.isSym)) ∧ w'.cell? ⟨(ad111.add (((rd t104 x7_2)).toNat * 14)).block, (ad111.add (((rd t104 x7_2)).toNat * 14)).off + 7, none⟩ = some (.string ((rd_T47 l0_2 (rd t104 x7_2)).l.val.sym)) ∧ w'.cell? ⟨(ad111.add (((rd t104 x7_2)).toNat * 14)).block, (ad111.add (((rd t104 x7_2)).toNat * 14)).off + 8, none⟩ = some (.int .i64 ((rd_T47 l0_2 (rd t104 x7_2)).l.val.n)) ∧ w'.cell? ⟨(ad111.add (((rd t104 x7_2)).toNat * 14)).block, (ad111.add (((rd t104 x7_2)).toNat * 14)).off + 9, none⟩ = some (.bool ((rd_T47 l0_2 (rd t104 x7_2)).r.isVar)) ∧ w'.cell? ⟨(ad111.add (((rd t104 x7_2)).toNat * 14)).block, (ad111.add (((rd t104 x7_2)).toNat * 14)).off + 10, none⟩ = some (.string ((rd_T47 l0_2 (rd t104 x7_2)).r.name)) ∧ w'.cell? ⟨(ad111.add (((rd t104 x7_2)).toNat * 14)).block, (ad111.add (((rd t104 x7_2)).toNat * 14)).off + 11, none⟩ = some (.bool ((rd_T47 l0_2 (rd t104 x7_2)).r.val.isSym)) ∧ w'.cell? ⟨(ad111.add (((rd t104 x7_2)).toNat * 14)).block, (ad111.add (((rd t104 x7_2)).toNat * 14)).off + 12, none⟩ = some (.string ((rd_T47 l0_2 (rd t104 x7_2)).r.val.sym)) ∧ w'.cell? ⟨(ad111.add (((rd t104 x7_2)).toNat * 14)).block, (ad111.add (((rd t104 x7_2)).toNat * 14)).off + 13, none⟩ = some (.int .i64 ((rd_T47 l0_2 (rd t104 x7_2)).r.val.n))) (ds := []) #[false, false, false, false, false, false, false, false, false, false] (by kernel_rfl) rfl rfl ⟨(blk_cell BK101.out 0).trans rfl, (blk_cell BK101.out 1).trans rfl, (blk_cell BK101.out 2).trans rfl, hx110_0, ((HB.out.cell (blt_ hw111_0)).trans hw111_0), ((HB.out.cell (blt_ hw111_1)).trans hw111_1), ((HB.out.cell (blt_ hw111_2)).trans hw111_2), ((HB.out.cell (blt_ hw111_3)).trans hw111_3), ((HB.out.cell (blt_ hw111_4)).trans hw111_4), ((HB.out.cell (blt_ hw111_5)).trans hw111_5), ((HB.out.cell (blt_ hw111_6)).trans hw111_6), ((HB.out.cell (blt_ hw111_7)).trans hw111_7), ((HB.out.cell (blt_ hw111_8)).trans hw111_8), ((HB.out.cell (blt_ hw111_9)).trans hw111_9), ((HB.out.cell (blt_ hw111_10)).trans hw111_10), ((HB.out.cell (blt_ hw111_11)).trans hw111_11), ((HB.out.cell (blt_ hw111_12)).trans hw111_12), ((HB.out.cell (blt_ hw111_13)).trans hw111_13)⟩ (fun hHeld => ?_); refine with_tabW lambrequinlaw13_PlanEarly.tab13 lambrequinlaw13_PlanEarly.bits13 (fun HT_ HW_ => ?_)
                generalize wc.drew = w31 at HO_4 HO_6 BK101 HB HR111_2 hx110_0 hx111_0 hx111_1 hx111_10 hx111_11 hx111_12 hx111_13 hx111_2 hx111_3 hx111_4 hx111_5 hx111_6 hx111_7 hx111_8 hx111_9 hHeld ⊢
                refine pure_ (i := 0) (N := some 57) (v := ?_) (a' := ?_) #[true, false, false, false, false, false, false, false, false, false] rfl rfl (any_of HT_.out (by kernel_rfl)) (fun _ _ _ h => h) (Or.inl ⟨by rfl, ?_⟩) ?_ ?_
                rotate_left
                ·intro w'
                 go_simp
                 with_reducible rfl
                rotate_left
                ·simp only [Act.put, List.setIfInBounds_toArray, List.set_cons_zero, List.set_cons_succ, i64_w, i32_w]
                 rfl
                refine pure_ (i := 2) (N := some 59) (v := ?_) (a' := ?_) #[true, false, true, false, false, false, false, false, false, false] rfl rfl (any_of HT_.out (by kernel_rfl)) (fun _ _ _ h => h) (Or.inl ⟨by rfl, ?_⟩) ?_ ?_
                rotate_left
                ·intro w'
                 go_simp
                 with_reducible rfl
                rotate_left
                ·simp only [Act.put, List.setIfInBounds_toArray, List.set_cons_zero, List.set_cons_succ, i64_w, i32_w]
                 rfl
                refine pure_ (i := 3) (N := some 60) (v := ?_) (a' := ?_) #[true, false, true, true, false, false, false, false, false, false] rfl rfl (any_of HT_.out (by kernel_rfl)) (fun _ _ _ h => h) (Or.inl ⟨by rfl, ?_⟩) ?_ ?_
                rotate_left
                ·intro w'
                 go_simp
                 with_reducible rfl
                rotate_left
                ·simp only [Act.put, List.setIfInBounds_toArray, List.set_cons_zero, List.set_cons_succ, i64_w, i32_w]
                 rfl
                refine pure_ (i := 4) (N := some 61) (v := ?_) (a' := ?_) #[true, false, true, true, true, false, false, false, false, false] rfl rfl (any_of HT_.out (by kernel_rfl)) (fun _ _ _ h => h) (Or.inl ⟨by rfl, ?_⟩) ?_ ?_
                rotate_left
                ·intro w'
                 go_simp
                 with_reducible rfl
                rotate_left
                ·simp only [Act.put, List.setIfInBounds_toArray, List.set_cons_zero, List.set_cons_succ, i64_w, i32_w]
                 rfl
                refine take_ (i := 1) (N := some 58) (v := ?_) (a' := ?_) #[true, true, true, true, true, false, false, false, false, false] rfl rfl (take_ofW HT_.out HW_.out (by kernel_rfl)) (fun _ _ _ h => h) (Or.inl ⟨by rfl, ?_⟩) hHeld ?_ ?_
                rotate_left
                ·rintro w' ⟨s0, s1, s2, s3, s4, s5, s6, s7, s8, s9, s10, s11, s12, s13, s14, s15, s16, s17⟩
                 go_simp
                 with_reducible rfl
                rotate_left
                ·simp only [Act.put, List.setIfInBounds_toArray, List.set_cons_zero, List.set_cons_succ, i64_w, i32_w]
                 rfl
                refine take_ (i := 5) (N := some 62) (v := ?_) (a' := ?_) #[true, true, true, true, true, true, false, false, false, false] rfl rfl (take_ofW HT_.out HW_.out (by kernel_rfl)) (fun _ _ _ h => h) (Or.inl ⟨by rfl, ?_⟩) hHeld ?_ ?_
                rotate_left
                ·rintro w' ⟨s0, s1, s2, s3, s4, s5, s6, s7, s8, s9, s10, s11, s12, s13, s14, s15, s16, s17⟩
                 go_simp
                 with_reducible rfl
                rotate_left
                ·simp only [Act.put, List.setIfInBounds_toArray, List.set_cons_zero, List.set_cons_succ, i64_w, i32_w]
                 rfl
                refine pure_ (i := 6) (N := some 63) (v := ?_) (a' := ?_) #[true, true, true, true, true, true, true, false, false, false] rfl rfl (any_of HT_.out (by kernel_rfl)) (fun _ _ _ h => h) (Or.inl ⟨by rfl, ?_⟩) ?_ ?_
                rotate_left
                ·intro w'
                 go_simp
                 with_reducible rfl
                rotate_left
                ·simp only [Act.put, List.setIfInBounds_toArray, List.set_cons_zero, List.set_cons_succ, i64_w, i32_w]
                 rfl
                refine take_ (i := 7) (N := some 64) (v := ?_) (a' := ?_) #[true, true, true, true, true, true, true, true, false, false] rfl rfl (take_ofW HT_.out HW_.out (by kernel_rfl)) (fun _ _ _ h => h) (Or.inl ⟨by rfl, ?_⟩) hHeld ?_ ?_
                rotate_left
                ·rintro w' ⟨s0, s1, s2, s3, s4, s5, s6, s7, s8, s9, s10, s11, s12, s13, s14, s15, s16, s17⟩
                 go_simp
                 with_reducible rfl
                rotate_left
                ·simp only [Act.put, List.setIfInBounds_toArray, List.set_cons_zero, List.set_cons_succ, i64_w, i32_w]
                 rfl
                refine one_ (i := 8) (N := some 8) #[true, true, true, true, true, true, true, true, true, false] rfl rfl (one_of HT_.out (by kernel_rfl)) (by decide) (fun K hK => ?_)
                refine box_step ?hg (N := 8) ?hd (cs := #[.int .i64 0, .string (⟨#[]⟩ : ByteArray), .slice none 0 0, .string (⟨#[]⟩ : ByteArray), .bool false, .string (⟨#[]⟩ : ByteArray), .bool false, .string (⟨#[]⟩ : ByteArray), .int .i64 0, .bool false, .string (⟨#[]⟩ : ByteArray), .bool false, .string (⟨#[]⟩ : ByteArray), .int .i64 0]) (t := 47) ?hr ?_; (case hd => rfl); (case hg => rfl); (case hr => first | (go_simp; done) | (go_simp; rfl))
                intro gb112 hg w32 hbox hb
                have HS3_ := (hb.cell (blt_ (hHeld.2.2.2.1))).trans (hHeld.2.2.2.1)
                have n0_ := Aside0.mk (Kd.R_below (by (with_reducible repeat (first | apply Kd.R_alloc | apply Kd.R_drewN | apply Kd.R_drew)); exact HO_4.out) hb)
                have n1_ := Aside0.mk (Kd.R_below (by (with_reducible repeat (first | apply Kd.R_alloc | apply Kd.R_drewN | apply Kd.R_drew)); exact HO_6.out) hb)
                have n2_ := Aside0.mk (blk_below (g := gb101) (o := .cells #[.string a0_0, .slice A0_1 l0_1.length c0_1, .slice (some ad111) l0_2.length c0_2] 27 (0, 0)) (by (with_reducible repeat (first | refine blk_drewN ?_ _ | refine blk_drew ?_ | refine blk_alloc ?_ _)); exact BK101.out) hb)
                have n3_ := Aside0.mk (below_step (by repeat (first | (with_reducible first | exact HB.out | apply below_alloc | apply pw_below_drewN | apply below_drew1 | refine below_set ?_ GE101.out) | exact HB.out)) hb)
                have n4_ := Aside0.mk (hbox)
                have n5_ := Aside0.mk ((by rw [hg]; exact (below_size (by repeat (first | (with_reducible first | exact HB.out | apply below_alloc | apply pw_below_drewN | apply below_drew1 | refine below_set ?_ GE101.out) | exact HB.out))) : w.heap.size ≤ gb112))
                have n6_ := Aside0.mk ((by rw [hg]; exact (below_size (by repeat (first | (with_reducible first | exact HB.out | apply below_alloc | apply pw_below_drewN | apply below_drew1 | refine below_set ?_ GE101.out) | exact HB.out))) : w.heap.size ≤ gb112))
                have n7_ := Aside0.mk ((by rw [hg]; exact Nat.ne_of_lt (blk_lt (g := gb101) (o := .cells #[.string a0_0, .slice A0_1 l0_1.length c0_1, .slice (some ad111) l0_2.length c0_2] 27 (0, 0)) (by (with_reducible repeat (first | refine blk_drewN ?_ _ | refine blk_drew ?_ | refine blk_alloc ?_ _)); exact BK101.out)) : gb101 ≠ gb112))
                have n8_ := Aside0.mk ((by rw [hg]; exact Nat.ne_of_gt (blk_lt (g := gb101) (o := .cells #[.string a0_0, .slice A0_1 l0_1.length c0_1, .slice (some ad111) l0_2.length c0_2] 27 (0, 0)) (by (with_reducible repeat (first | refine blk_drewN ?_ _ | refine blk_drew ?_ | refine blk_alloc ?_ _)); exact BK101.out)) : gb112 ≠ gb101))
                clear HO_4
                clear HO_6
                clear BK101
                clear HB
                have HO_4 := n0_
                have HO_6 := n1_
                have BK101 := n2_
                have HB := n3_
                have BK112 := n4_
                have GW112 := n5_
                have GE112 := n6_
                have NB101_112 := n7_
                have NB112_101 := n8_
                clear n0_ n1_ n2_ n3_ n4_ n5_ n6_ n7_ n8_
                clear hb hbox hg
                refine hK.out _ _ ⟨(blk_cell BK101.out 0).trans rfl, (blk_cell BK101.out 1).trans rfl, (blk_cell BK101.out 2).trans rfl, HS3_, ((HB.out.cell (blt_ hw111_0)).trans hw111_0), ((HB.out.cell (blt_ hw111_1)).trans hw111_1), ((HB.out.cell (blt_ hw111_2)).trans hw111_2), ((HB.out.cell (blt_ hw111_3)).trans hw111_3), ((HB.out.cell (blt_ hw111_4)).trans hw111_4), ((HB.out.cell (blt_ hw111_5)).trans hw111_5), ((HB.out.cell (blt_ hw111_6)).trans hw111_6), ((HB.out.cell (blt_ hw111_7)).trans hw111_7), ((HB.out.cell (blt_ hw111_8)).trans hw111_8), ((HB.out.cell (blt_ hw111_9)).trans hw111_9), ((HB.out.cell (blt_ hw111_10)).trans hw111_10), ((HB.out.cell (blt_ hw111_11)).trans hw111_11), ((HB.out.cell (blt_ hw111_12)).trans hw111_12), ((HB.out.cell (blt_ hw111_13)).trans hw111_13)⟩ (fun hHeld => ?_)
                clear hK K
                refine norm_ (a' := ?_) ?_ ?_
                rotate_left
                ·show Act.put _ (some 8) _ = _
                 simp only [Act.put, List.setIfInBounds_toArray, List.set_cons_zero, List.set_cons_succ, i64_w, i32_w]
                 rfl
                refine one_ (i := 9) (N := none) #[true, true, true, true, true, true, true, true, true, true] rfl rfl (one_of HT_.out (by kernel_rfl)) (by decide) (fun K hK => ?_)
                have hs33 : w32.cell? ⟨gb112, 0, none⟩ = some (.int .i64 0) := (blk_cell BK112.out 0).trans rfl
                have hfs33 := blk_frozen BK112.out 0
                have hns33_0 := NB101_112.out
                have hms33_0 := NB112_101.out
                have hs34 : w32.cell? ⟨gb112, 1, none⟩ = some (.string (⟨#[]⟩ : ByteArray)) := (blk_cell BK112.out 1).trans rfl
                have hfs34 := blk_frozen BK112.out 1
                have hns34_0 := NB101_112.out
                have hms34_0 := NB112_101.out
                have hs35 : w32.cell? ⟨gb112, 2, none⟩ = some (.slice none 0 0) := (blk_cell BK112.out 2).trans rfl
                have hfs35 := blk_frozen BK112.out 2
                have hns35_0 := NB101_112.out
                have hms35_0 := NB112_101.out
                have hs36 : w32.cell? ⟨gb112, 3, none⟩ = some (.string (⟨#[]⟩ : ByteArray)) := (blk_cell BK112.out 3).trans rfl
                have hfs36 := blk_frozen BK112.out 3
                have hns36_0 := NB101_112.out
                have hms36_0 := NB112_101.out
                have hs37 : w32.cell? ⟨gb112, 4, none⟩ = some (.bool false) := (blk_cell BK112.out 4).trans rfl
                have hfs37 := blk_frozen BK112.out 4
                have hns37_0 := NB101_112.out
                have hms37_0 := NB112_101.out
                have hs38 : w32.cell? ⟨gb112, 5, none⟩ = some (.string (⟨#[]⟩ : ByteArray)) := (blk_cell BK112.out 5).trans rfl
                have hfs38 := blk_frozen BK112.out 5
                have hns38_0 := NB101_112.out
                have hms38_0 := NB112_101.out
                have hs39 : w32.cell? ⟨gb112, 6, none⟩ = some (.bool false) := (blk_cell BK112.out 6).trans rfl
                have hfs39 := blk_frozen BK112.out 6
                have hns39_0 := NB101_112.out
                have hms39_0 := NB112_101.out
                have hs40 : w32.cell? ⟨gb112, 7, none⟩ = some (.string (⟨#[]⟩ : ByteArray)) := (blk_cell BK112.out 7).trans rfl
                have hfs40 := blk_frozen BK112.out 7
                have hns40_0 := NB101_112.out
                have hms40_0 := NB112_101.out
                have hs41 : w32.cell? ⟨gb112, 8, none⟩ = some (.int .i64 0) := (blk_cell BK112.out 8).trans rfl
                have hfs41 := blk_frozen BK112.out 8
                have hns41_0 := NB101_112.out
                have hms41_0 := NB112_101.out
                have hs42 : w32.cell? ⟨gb112, 9, none⟩ = some (.bool false) := (blk_cell BK112.out 9).trans rfl
                have hfs42 := blk_frozen BK112.out 9
                have hns42_0 := NB101_112.out
                have hms42_0 := NB112_101.out
                have hs43 : w32.cell? ⟨gb112, 10, none⟩ = some (.string (⟨#[]⟩ : ByteArray)) := (blk_cell BK112.out 10).trans rfl
                have hfs43 := blk_frozen BK112.out 10
                have hns43_0 := NB101_112.out
                have hms43_0 := NB112_101.out
                have hs44 : w32.cell? ⟨gb112, 11, none⟩ = some (.bool false) := (blk_cell BK112.out 11).trans rfl
                have hfs44 := blk_frozen BK112.out 11
                have hns44_0 := NB101_112.out
                have hms44_0 := NB112_101.out
                have hs45 : w32.cell? ⟨gb112, 12, none⟩ = some (.string (⟨#[]⟩ : ByteArray)) := (blk_cell BK112.out 12).trans rfl
                have hfs45 := blk_frozen BK112.out 12
                have hns45_0 := NB101_112.out
                have hms45_0 := NB112_101.out
                have hs46 : w32.cell? ⟨gb112, 13, none⟩ = some (.int .i64 0) := (blk_cell BK112.out 13).trans rfl
                have hfs46 := blk_frozen BK112.out 13
                have hns46_0 := NB101_112.out
                have hms46_0 := NB112_101.out
                refine skip_ (w1 := ?_) (by rfl) rfl ?_ ?_
                rotate_left
                ·go_simp
                 rfl
                refine hK.out _ _ ⟨(by repeat (first | (with_reducible exact (hHeld.1)) | refine (cell_far (p := ⟨gb112, _, none⟩) NB101_112.out _).trans ?_ | exact (hHeld.1))), (by repeat (first | (with_reducible exact (hHeld.2.1)) | refine (cell_far (p := ⟨gb112, _, none⟩) NB101_112.out _).trans ?_ | exact (hHeld.2.1))), (by repeat (first | (with_reducible exact (hHeld.2.2.1)) | refine (cell_far (p := ⟨gb112, _, none⟩) NB101_112.out _).trans ?_ | exact (hHeld.2.2.1))), (by repeat (first | (with_reducible exact (hHeld.2.2.2.1)) | refine (cell_far (p := ⟨gb112, _, none⟩) (by first | exact Kd.own_blk (Kd.R_ne HO_4.out BK112.out (by decide)) | (rw [add_block]; exact Kd.own_blk (Kd.R_ne HO_4.out BK112.out (by decide))) | (show (Addr.add _ _).block ≠ _; rw [add_block]; exact Kd.own_blk (Kd.R_ne HO_4.out BK112.out (by decide))) | (dsimp only; exact Kd.own_blk (Kd.R_ne HO_4.out BK112.out (by decide)))) _).trans ?_ | exact (hHeld.2.2.2.1))), (by repeat (first | (with_reducible exact (hHeld.2.2.2.2.1)) | refine (cell_far (p := ⟨gb112, _, none⟩) (by first | exact Nat.ne_of_lt (Nat.lt_of_lt_of_le (by have := blt_ hw111_0; first | rwa [add_block] at this | exact this) GW112.out) | (rw [add_block]; exact Nat.ne_of_lt (Nat.lt_of_lt_of_le (by have := blt_ hw111_0; first | rwa [add_block] at this | exact this) GW112.out)) | (show (Addr.add _ _).block ≠ _; rw [add_block]; exact Nat.ne_of_lt (Nat.lt_of_lt_of_le (by have := blt_ hw111_0; first | rwa [add_block] at this | exact this) GW112.out)) | (dsimp only; exact Nat.ne_of_lt (Nat.lt_of_lt_of_le (by have := blt_ hw111_0; first | rwa [add_block] at this | exact this) GW112.out))) _).trans ?_ | exact (hHeld.2.2.2.2.1))), (by repeat (first | (with_reducible exact (hHeld.2.2.2.2.2.1)) | refine (cell_far (p := ⟨gb112, _, none⟩) (by first | exact Nat.ne_of_lt (Nat.lt_of_lt_of_le (by have := blt_ hw111_1; first | rwa [add_block] at this | exact this) GW112.out) | (rw [add_block]; exact Nat.ne_of_lt (Nat.lt_of_lt_of_le (by have := blt_ hw111_1; first | rwa [add_block] at this | exact this) GW112.out)) | (show (Addr.add _ _).block ≠ _; rw [add_block]; exact Nat.ne_of_lt (Nat.lt_of_lt_of_le (by have := blt_ hw111_1; first | rwa [add_block] at this | exact this) GW112.out)) | (dsimp only; exact Nat.ne_of_lt (Nat.lt_of_lt_of_le (by have := blt_ hw111_1; first | rwa [add_block] at this | exact this) GW112.out))) _).trans ?_ | exact (hHeld.2.2.2.2.2.1))), (by repeat (first | (with_reducible exact (hHeld.2.2.2.2.2.2.1)) | refine (cell_far (p := ⟨gb112, _, none⟩) (by first | exact Nat.ne_of_lt (Nat.lt_of_lt_of_le (by have := blt_ hw111_2; first | rwa [add_block] at this | exact this) GW112.out) | (rw [add_block]; exact Nat.ne_of_lt (Nat.lt_of_lt_of_le (by have := blt_ hw111_2; first | rwa [add_block] at this | exact this) GW112.out)) | (show (Addr.add _ _).block ≠ _; rw [add_block]; exact Nat.ne_of_lt (Nat.lt_of_lt_of_le (by have := blt_ hw111_2; first | rwa [add_block] at this | exact this) GW112.out)) | (dsimp only; exact Nat.ne_of_lt (Nat.lt_of_lt_of_le (by have := blt_ hw111_2; first | rwa [add_block] at this | exact this) GW112.out))) _).trans ?_ | exact (hHeld.2.2.2.2.2.2.1))), (by repeat (first | (with_reducible exact (hHeld.2.2.2.2.2.2.2.1)) | refine (cell_far (p := ⟨gb112, _, none⟩) (by first | exact Nat.ne_of_lt (Nat.lt_of_lt_of_le (by have := blt_ hw111_3; first | rwa [add_block] at this | exact this) GW112.out) | (rw [add_block]; exact Nat.ne_of_lt (Nat.lt_of_lt_of_le (by have := blt_ hw111_3; first | rwa [add_block] at this | exact this) GW112.out)) | (show (Addr.add _ _).block ≠ _; rw [add_block]; exact Nat.ne_of_lt (Nat.lt_of_lt_of_le (by have := blt_ hw111_3; first | rwa [add_block] at this | exact this) GW112.out)) | (dsimp only; exact Nat.ne_of_lt (Nat.lt_of_lt_of_le (by have := blt_ hw111_3; first | rwa [add_block] at this | exact this) GW112.out))) _).trans ?_ | exact (hHeld.2.2.2.2.2.2.2.1))), (by repeat (first | (with_reducible exact (hHeld.2.2.2.2.2.2.2.2.1)) | refine (cell_far (p := ⟨gb112, _, none⟩) (by first | exact Nat.ne_of_lt (Nat.lt_of_lt_of_le (by have := blt_ hw111_4; first | rwa [add_block] at this | exact this) GW112.out) | (rw [add_block]; exact Nat.ne_of_lt (Nat.lt_of_lt_of_le (by have := blt_ hw111_4; first | rwa [add_block] at this | exact this) GW112.out)) | (show (Addr.add _ _).block ≠ _; rw [add_block]; exact Nat.ne_of_lt (Nat.lt_of_lt_of_le (by have := blt_ hw111_4; first | rwa [add_block] at this | exact this) GW112.out)) | (dsimp only; exact Nat.ne_of_lt (Nat.lt_of_lt_of_le (by have := blt_ hw111_4; first | rwa [add_block] at this | exact this) GW112.out))) _).trans ?_ | exact (hHeld.2.2.2.2.2.2.2.2.1))), (by repeat (first | (with_reducible exact (hHeld.2.2.2.2.2.2.2.2.2.1)) | refine (cell_far (p := ⟨gb112, _, none⟩) (by first | exact Nat.ne_of_lt (Nat.lt_of_lt_of_le (by have := blt_ hw111_5; first | rwa [add_block] at this | exact this) GW112.out) | (rw [add_block]; exact Nat.ne_of_lt (Nat.lt_of_lt_of_le (by have := blt_ hw111_5; first | rwa [add_block] at this | exact this) GW112.out)) | (show (Addr.add _ _).block ≠ _; rw [add_block]; exact Nat.ne_of_lt (Nat.lt_of_lt_of_le (by have := blt_ hw111_5; first | rwa [add_block] at this | exact this) GW112.out)) | (dsimp only; exact Nat.ne_of_lt (Nat.lt_of_lt_of_le (by have := blt_ hw111_5; first | rwa [add_block] at this | exact this) GW112.out))) _).trans ?_ | exact (hHeld.2.2.2.2.2.2.2.2.2.1))), (by repeat (first | (with_reducible exact (hHeld.2.2.2.2.2.2.2.2.2.2.1)) | refine (cell_far (p := ⟨gb112, _, none⟩) (by first | exact Nat.ne_of_lt (Nat.lt_of_lt_of_le (by have := blt_ hw111_6; first | rwa [add_block] at this | exact this) GW112.out) | (rw [add_block]; exact Nat.ne_of_lt (Nat.lt_of_lt_of_le (by have := blt_ hw111_6; first | rwa [add_block] at this | exact this) GW112.out)) | (show (Addr.add _ _).block ≠ _; rw [add_block]; exact Nat.ne_of_lt (Nat.lt_of_lt_of_le (by have := blt_ hw111_6; first | rwa [add_block] at this | exact this) GW112.out)) | (dsimp only; exact Nat.ne_of_lt (Nat.lt_of_lt_of_le (by have := blt_ hw111_6; first | rwa [add_block] at this | exact this) GW112.out))) _).trans ?_ | exact (hHeld.2.2.2.2.2.2.2.2.2.2.1))), (by repeat (first | (with_reducible exact (hHeld.2.2.2.2.2.2.2.2.2.2.2.1)) | refine (cell_far (p := ⟨gb112, _, none⟩) (by first | exact Nat.ne_of_lt (Nat.lt_of_lt_of_le (by have := blt_ hw111_7; first | rwa [add_block] at this | exact this) GW112.out) | (rw [add_block]; exact Nat.ne_of_lt (Nat.lt_of_lt_of_le (by have := blt_ hw111_7; first | rwa [add_block] at this | exact this) GW112.out)) | (show (Addr.add _ _).block ≠ _; rw [add_block]; exact Nat.ne_of_lt (Nat.lt_of_lt_of_le (by have := blt_ hw111_7; first | rwa [add_block] at this | exact this) GW112.out)) | (dsimp only; exact Nat.ne_of_lt (Nat.lt_of_lt_of_le (by have := blt_ hw111_7; first | rwa [add_block] at this | exact this) GW112.out))) _).trans ?_ | exact (hHeld.2.2.2.2.2.2.2.2.2.2.2.1))), (by repeat (first | (with_reducible exact (hHeld.2.2.2.2.2.2.2.2.2.2.2.2.1)) | refine (cell_far (p := ⟨gb112, _, none⟩) (by first | exact Nat.ne_of_lt (Nat.lt_of_lt_of_le (by have := blt_ hw111_8; first | rwa [add_block] at this | exact this) GW112.out) | (rw [add_block]; exact Nat.ne_of_lt (Nat.lt_of_lt_of_le (by have := blt_ hw111_8; first | rwa [add_block] at this | exact this) GW112.out)) | (show (Addr.add _ _).block ≠ _; rw [add_block]; exact Nat.ne_of_lt (Nat.lt_of_lt_of_le (by have := blt_ hw111_8; first | rwa [add_block] at this | exact this) GW112.out)) | (dsimp only; exact Nat.ne_of_lt (Nat.lt_of_lt_of_le (by have := blt_ hw111_8; first | rwa [add_block] at this | exact this) GW112.out))) _).trans ?_ | exact (hHeld.2.2.2.2.2.2.2.2.2.2.2.2.1))), (by repeat (first | (with_reducible exact (hHeld.2.2.2.2.2.2.2.2.2.2.2.2.2.1)) | refine (cell_far (p := ⟨gb112, _, none⟩) (by first | exact Nat.ne_of_lt (Nat.lt_of_lt_of_le (by have := blt_ hw111_9; first | rwa [add_block] at this | exact this) GW112.out) | (rw [add_block]; exact Nat.ne_of_lt (Nat.lt_of_lt_of_le (by have := blt_ hw111_9; first | rwa [add_block] at this | exact this) GW112.out)) | (show (Addr.add _ _).block ≠ _; rw [add_block]; exact Nat.ne_of_lt (Nat.lt_of_lt_of_le (by have := blt_ hw111_9; first | rwa [add_block] at this | exact this) GW112.out)) | (dsimp only; exact Nat.ne_of_lt (Nat.lt_of_lt_of_le (by have := blt_ hw111_9; first | rwa [add_block] at this | exact this) GW112.out))) _).trans ?_ | exact (hHeld.2.2.2.2.2.2.2.2.2.2.2.2.2.1))), (by repeat (first | (with_reducible exact (hHeld.2.2.2.2.2.2.2.2.2.2.2.2.2.2.1)) | refine (cell_far (p := ⟨gb112, _, none⟩) (by first | exact Nat.ne_of_lt (Nat.lt_of_lt_of_le (by have := blt_ hw111_10; first | rwa [add_block] at this | exact this) GW112.out) | (rw [add_block]; exact Nat.ne_of_lt (Nat.lt_of_lt_of_le (by have := blt_ hw111_10; first | rwa [add_block] at this | exact this) GW112.out)) | (show (Addr.add _ _).block ≠ _; rw [add_block]; exact Nat.ne_of_lt (Nat.lt_of_lt_of_le (by have := blt_ hw111_10; first | rwa [add_block] at this | exact this) GW112.out)) | (dsimp only; exact Nat.ne_of_lt (Nat.lt_of_lt_of_le (by have := blt_ hw111_10; first | rwa [add_block] at this | exact this) GW112.out))) _).trans ?_ | exact (hHeld.2.2.2.2.2.2.2.2.2.2.2.2.2.2.1))), (by repeat (first | (with_reducible exact (hHeld.2.2.2.2.2.2.2.2.2.2.2.2.2.2.2.1)) | refine (cell_far (p := ⟨gb112, _, none⟩) (by first | exact Nat.ne_of_lt (Nat.lt_of_lt_of_le (by have := blt_ hw111_11; first | rwa [add_block] at this | exact this) GW112.out) | (rw [add_block]; exact Nat.ne_of_lt (Nat.lt_of_lt_of_le (by have := blt_ hw111_11; first | rwa [add_block] at this | exact this) GW112.out)) | (show (Addr.add _ _).block ≠ _; rw [add_block]; exact Nat.ne_of_lt (Nat.lt_of_lt_of_le (by have := blt_ hw111_11; first | rwa [add_block] at this | exact this) GW112.out)) | (dsimp only; exact Nat.ne_of_lt (Nat.lt_of_lt_of_le (by have := blt_ hw111_11; first | rwa [add_block] at this | exact this) GW112.out))) _).trans ?_ | exact (hHeld.2.2.2.2.2.2.2.2.2.2.2.2.2.2.2.1))), (by repeat (first | (with_reducible exact (hHeld.2.2.2.2.2.2.2.2.2.2.2.2.2.2.2.2.1)) | refine (cell_far (p := ⟨gb112, _, none⟩) (by first | exact Nat.ne_of_lt (Nat.lt_of_lt_of_le (by have := blt_ hw111_12; first | rwa [add_block] at this | exact this) GW112.out) | (rw [add_block]; exact Nat.ne_of_lt (Nat.lt_of_lt_of_le (by have := blt_ hw111_12; first | rwa [add_block] at this | exact this) GW112.out)) | (show (Addr.add _ _).block ≠ _; rw [add_block]; exact Nat.ne_of_lt (Nat.lt_of_lt_of_le (by have := blt_ hw111_12; first | rwa [add_block] at this | exact this) GW112.out)) | (dsimp only; exact Nat.ne_of_lt (Nat.lt_of_lt_of_le (by have := blt_ hw111_12; first | rwa [add_block] at this | exact this) GW112.out))) _).trans ?_ | exact (hHeld.2.2.2.2.2.2.2.2.2.2.2.2.2.2.2.2.1))), (by repeat (first | (with_reducible exact (hHeld.2.2.2.2.2.2.2.2.2.2.2.2.2.2.2.2.2)) | refine (cell_far (p := ⟨gb112, _, none⟩) (by first | exact Nat.ne_of_lt (Nat.lt_of_lt_of_le (by have := blt_ hw111_13; first | rwa [add_block] at this | exact this) GW112.out) | (rw [add_block]; exact Nat.ne_of_lt (Nat.lt_of_lt_of_le (by have := blt_ hw111_13; first | rwa [add_block] at this | exact this) GW112.out)) | (show (Addr.add _ _).block ≠ _; rw [add_block]; exact Nat.ne_of_lt (Nat.lt_of_lt_of_le (by have := blt_ hw111_13; first | rwa [add_block] at this | exact this) GW112.out)) | (dsimp only; exact Nat.ne_of_lt (Nat.lt_of_lt_of_le (by have := blt_ hw111_13; first | rwa [add_block] at this | exact this) GW112.out))) _).trans ?_ | exact (hHeld.2.2.2.2.2.2.2.2.2.2.2.2.2.2.2.2.2)))⟩ (fun hHeld => ?_)
                clear hK K
                refine done_ (done_of HT_.out (by kernel_rfl)) ?_
                have hnb47 := NB112_101.out
                have hnc47 := NB101_112.out
                have hcz48_0 : w32.cell? ⟨gb112, 0, none⟩ = some (.int .i64 0) := (blk_cell BK112.out 0).trans rfl
                have hcz48_1 : w32.cell? ⟨gb112, 1, none⟩ = some (.string (⟨#[]⟩ : ByteArray)) := (blk_cell BK112.out 1).trans rfl
                have hcz48_2 : w32.cell? ⟨gb112, 2, none⟩ = some (.slice none 0 0) := (blk_cell BK112.out 2).trans rfl
                have hcz48_3 : w32.cell? ⟨gb112, 3, none⟩ = some (.string (⟨#[]⟩ : ByteArray)) := (blk_cell BK112.out 3).trans rfl
                have hcz48_4 : w32.cell? ⟨gb112, 4, none⟩ = some (.bool false) := (blk_cell BK112.out 4).trans rfl
                have hcz48_5 : w32.cell? ⟨gb112, 5, none⟩ = some (.string (⟨#[]⟩ : ByteArray)) := (blk_cell BK112.out 5).trans rfl
                have hcz48_6 : w32.cell? ⟨gb112, 6, none⟩ = some (.bool false) := (blk_cell BK112.out 6).trans rfl
                have hcz48_7 : w32.cell? ⟨gb112, 7, none⟩ = some (.string (⟨#[]⟩ : ByteArray)) := (blk_cell BK112.out 7).trans rfl
                have hcz48_8 : w32.cell? ⟨gb112, 8, none⟩ = some (.int .i64 0) := (blk_cell BK112.out 8).trans rfl
                have hcz48_9 : w32.cell? ⟨gb112, 9, none⟩ = some (.bool false) := (blk_cell BK112.out 9).trans rfl
                have hcz48_10 : w32.cell? ⟨gb112, 10, none⟩ = some (.string (⟨#[]⟩ : ByteArray)) := (blk_cell BK112.out 10).trans rfl
                have hcz48_11 : w32.cell? ⟨gb112, 11, none⟩ = some (.bool false) := (blk_cell BK112.out 11).trans rfl
                have hcz48_12 : w32.cell? ⟨gb112, 12, none⟩ = some (.string (⟨#[]⟩ : ByteArray)) := (blk_cell BK112.out 12).trans rfl
                have hcz48_13 : w32.cell? ⟨gb112, 13, none⟩ = some (.int .i64 0) := (blk_cell BK112.out 13).trans rfl
                have hfz48_0 := blk_frozen BK112.out 0
                have hfz48_1 := blk_frozen BK112.out 1
                have hfz48_2 := blk_frozen BK112.out 2
                have hfz48_3 := blk_frozen BK112.out 3
                have hfz48_4 := blk_frozen BK112.out 4
                have hfz48_5 := blk_frozen BK112.out 5
                have hfz48_6 := blk_frozen BK112.out 6
                have hfz48_7 := blk_frozen BK112.out 7
                have hfz48_8 := blk_frozen BK112.out 8
                have hfz48_9 := blk_frozen BK112.out 9
                have hfz48_10 := blk_frozen BK112.out 10
                have hfz48_11 := blk_frozen BK112.out 11
                have hfz48_12 := blk_frozen BK112.out 12
                have hfz48_13 := blk_frozen BK112.out 13
                try go_wp2
                go_loopg [9] kj18 (fun kq v9 w' => ∃ (x9_4 : Int), v9 = .int .i64 x9_4 ∧ Aside0 (lambrequinlaw13_PlanEarly.l1 kq t102 t104 x6_2 x7_2 x9_4 a0_0 l0_1 l0_2 ((rd_T47 l0_2 (rd t104 x7_2)).kind) ((rd_T47 l0_2 (rd t104 x7_2)).atom.pred) ((rd_T47 l0_2 (rd t104 x7_2)).atom.args) ((rd_T47 l0_2 (rd t104 x7_2)).op) ((rd_T47 l0_2 (rd t104 x7_2)).l.isVar) ((rd_T47 l0_2 (rd t104 x7_2)).l.name) ((rd_T47 l0_2 (rd t104 x7_2)).l.val.isSym) ((rd_T47 l0_2 (rd t104 x7_2)).l.val.sym) ((rd_T47 l0_2 (rd t104 x7_2)).l.val.n) ((rd_T47 l0_2 (rd t104 x7_2)).r.isVar) ((rd_T47 l0_2 (rd t104 x7_2)).r.name) ((rd_T47 l0_2 (rd t104 x7_2)).r.val.isSym) ((rd_T47 l0_2 (rd t104 x7_2)).r.val.sym) ((rd_T47 l0_2 (rd t104 x7_2)).r.val.n) = some r) ∧ Aside0 (kq ≤ kj18) ∧ Aside0 (Kd.R (Kd.int .i64) 3 w' w.heap.size (fun _ => True) (.slice (some ad110) t104.length co20) t104) ∧ Aside0 (Kd.R Kd.string 9 w' w.heap.size (fun _ => True) u6 x6_2) ∧ Aside0 (w'.heap[gb101]? = some (.cells #[.string a0_0, (.slice A0_1 l0_1.length c0_1), (.slice (some ad111) l0_2.length c0_2)] 27 (0, 0))) ∧ Aside0 (w'.heap[gb112]? = some (.cells #[.int .i64 ((rd_T47 l0_2 (rd t104 x7_2)).kind), .string ((rd_T47 l0_2 (rd t104 x7_2)).atom.pred), (.slice A111_2 ((rd_T47 l0_2 (rd t104 x7_2)).atom.args).length c111_2), .string ((rd_T47 l0_2 (rd t104 x7_2)).op), .bool ((rd_T47 l0_2 (rd t104 x7_2)).l.isVar), .string ((rd_T47 l0_2 (rd t104 x7_2)).l.name), .bool ((rd_T47 l0_2 (rd t104 x7_2)).l.val.isSym), .string ((rd_T47 l0_2 (rd t104 x7_2)).l.val.sym), .int .i64 ((rd_T47 l0_2 (rd t104 x7_2)).l.val.n), .bool ((rd_T47 l0_2 (rd t104 x7_2)).r.isVar), .string ((rd_T47 l0_2 (rd t104 x7_2)).r.name), .bool ((rd_T47 l0_2 (rd t104 x7_2)).r.val.isSym), .string ((rd_T47 l0_2 (rd t104 x7_2)).r.val.sym), .int .i64 ((rd_T47 l0_2 (rd t104 x7_2)).r.val.n)] 47 (0, 0))) ∧ Aside0 (Below w.heap.size w w'))
                case atStart => exact ⟨(wrap64 (x7_2 + 1)), (by first | rfl | (simp; done) | (simp [*]; done)), H', ⟨Nat.le_refl _⟩, ⟨by (with_reducible repeat (first | apply Kd.R_alloc | apply Kd.R_drewN | apply Kd.R_drew)); exact Kd.R_mono (Kd.R_far (p := ⟨gb112, 13, none⟩) (Kd.R_far (p := ⟨gb112, 12, none⟩) (Kd.R_far (p := ⟨gb112, 11, none⟩) (Kd.R_far (p := ⟨gb112, 10, none⟩) (Kd.R_far (p := ⟨gb112, 9, none⟩) (Kd.R_far (p := ⟨gb112, 8, none⟩) (Kd.R_far (p := ⟨gb112, 7, none⟩) (Kd.R_far (p := ⟨gb112, 6, none⟩) (Kd.R_far (p := ⟨gb112, 5, none⟩) (Kd.R_far (p := ⟨gb112, 4, none⟩) (Kd.R_far (p := ⟨gb112, 3, none⟩) (Kd.R_far (p := ⟨gb112, 2, none⟩) (Kd.R_far (p := ⟨gb112, 1, none⟩) (Kd.R_far (p := ⟨gb112, 0, none⟩) (Kd.R_types HO_4.out BK112.out (by decide)) (fun _ hk => hk.2) _) (fun _ hk => hk.2) _) (fun _ hk => hk.2) _) (fun _ hk => hk.2) _) (fun _ hk => hk.2) _) (fun _ hk => hk.2) _) (fun _ hk => hk.2) _) (fun _ hk => hk.2) _) (fun _ hk => hk.2) _) (fun _ hk => hk.2) _) (fun _ hk => hk.2) _) (fun _ hk => hk.2) _) (fun _ hk => hk.2) _) (fun _ hk => hk.2) _) (fun _ hk => trivial)⟩, ⟨by (with_reducible repeat (first | apply Kd.R_alloc | apply Kd.R_drewN | apply Kd.R_drew)); exact Kd.R_mono (Kd.R_far (p := ⟨gb112, 13, none⟩) (Kd.R_far (p := ⟨gb112, 12, none⟩) (Kd.R_far (p := ⟨gb112, 11, none⟩) (Kd.R_far (p := ⟨gb112, 10, none⟩) (Kd.R_far (p := ⟨gb112, 9, none⟩) (Kd.R_far (p := ⟨gb112, 8, none⟩) (Kd.R_far (p := ⟨gb112, 7, none⟩) (Kd.R_far (p := ⟨gb112, 6, none⟩) (Kd.R_far (p := ⟨gb112, 5, none⟩) (Kd.R_far (p := ⟨gb112, 4, none⟩) (Kd.R_far (p := ⟨gb112, 3, none⟩) (Kd.R_far (p := ⟨gb112, 2, none⟩) (Kd.R_far (p := ⟨gb112, 1, none⟩) (Kd.R_far (p := ⟨gb112, 0, none⟩) (Kd.R_types HO_6.out BK112.out (by decide)) (fun _ hk => hk.2) _) (fun _ hk => hk.2) _) (fun _ hk => hk.2) _) (fun _ hk => hk.2) _) (fun _ hk => hk.2) _) (fun _ hk => hk.2) _) (fun _ hk => hk.2) _) (fun _ hk => hk.2) _) (fun _ hk => hk.2) _) (fun _ hk => hk.2) _) (fun _ hk => hk.2) _) (fun _ hk => hk.2) _) (fun _ hk => hk.2) _) (fun _ hk => hk.2) _) (fun _ hk => trivial)⟩, ⟨by repeat (first | (with_reducible first | exact BK101.out | refine blk_drewN ?_ _ | refine blk_drew ?_ | refine blk_alloc ?_ _) | refine blk_far ?_ NB101_112.out _ | exact BK101.out)⟩, ⟨by (with_reducible repeat (first | refine blk_drewN ?_ _ | refine blk_drew ?_ | refine blk_alloc ?_ _)); refine blk_put (cs := #[.int .i64 ((rd_T47 l0_2 (rd t104 x7_2)).kind), .string ((rd_T47 l0_2 (rd t104 x7_2)).atom.pred), .slice A111_2 ((rd_T47 l0_2 (rd t104 x7_2)).atom.args).length c111_2, .string ((rd_T47 l0_2 (rd t104 x7_2)).op), .bool ((rd_T47 l0_2 (rd t104 x7_2)).l.isVar), .string ((rd_T47 l0_2 (rd t104 x7_2)).l.name), .bool ((rd_T47 l0_2 (rd t104 x7_2)).l.val.isSym), .string ((rd_T47 l0_2 (rd t104 x7_2)).l.val.sym), .int .i64 ((rd_T47 l0_2 (rd t104 x7_2)).l.val.n), .bool ((rd_T47 l0_2 (rd t104 x7_2)).r.isVar), .string ((rd_T47 l0_2 (rd t104 x7_2)).r.name), .bool ((rd_T47 l0_2 (rd t104 x7_2)).r.val.isSym), .string ((rd_T47 l0_2 (rd t104 x7_2)).r.val.sym), .int .i64 0]) ?_ 13 _ rfl; (with_reducible repeat (first | refine blk_drewN ?_ _ | refine blk_drew ?_ | refine blk_alloc ?_ _)); refine blk_put (cs := #[.int .i64 ((rd_T47 l0_2 (rd t104 x7_2)).kind), .string ((rd_T47 l0_2 (rd t104 x7_2)).atom.pred), .slice A111_2 ((rd_T47 l0_2 (rd t104 x7_2)).atom.args).length c111_2, .string ((rd_T47 l0_2 (rd t104 x7_2)).op), .bool ((rd_T47 l0_2 (rd t104 x7_2)).l.isVar), .string ((rd_T47 l0_2 (rd t104 x7_2)).l.name), .bool ((rd_T47 l0_2 (rd t104 x7_2)).l.val.isSym), .string ((rd_T47 l0_2 (rd t104 x7_2)).l.val.sym), .int .i64 ((rd_T47 l0_2 (rd t104 x7_2)).l.val.n), .bool ((rd_T47 l0_2 (rd t104 x7_2)).r.isVar), .string ((rd_T47 l0_2 (rd t104 x7_2)).r.name), .bool ((rd_T47 l0_2 (rd t104 x7_2)).r.val.isSym), .string (⟨#[]⟩ : ByteArray), .int .i64 0]) ?_ 12 _ rfl; (with_reducible repeat (first | refine blk_drewN ?_ _ | refine blk_drew ?_ | refine blk_alloc ?_ _)); refine blk_put (cs := #[.int .i64 ((rd_T47 l0_2 (rd t104 x7_2)).kind), .string ((rd_T47 l0_2 (rd t104 x7_2)).atom.pred), .slice A111_2 ((rd_T47 l0_2 (rd t104 x7_2)).atom.args).length c111_2, .string ((rd_T47 l0_2 (rd t104 x7_2)).op), .bool ((rd_T47 l0_2 (rd t104 x7_2)).l.isVar), .string ((rd_T47 l0_2 (rd t104 x7_2)).l.name), .bool ((rd_T47 l0_2 (rd t104 x7_2)).l.val.isSym), .string ((rd_T47 l0_2 (rd t104 x7_2)).l.val.sym), .int .i64 ((rd_T47 l0_2 (rd t104 x7_2)).l.val.n), .bool ((rd_T47 l0_2 (rd t104 x7_2)).r.isVar), .string ((rd_T47 l0_2 (rd t104 x7_2)).r.name), .bool false, .string (⟨#[]⟩ : ByteArray), .int .i64 0]) ?_ 11 _ rfl; (with_reducible repeat (first | refine blk_drewN ?_ _ | refine blk_drew ?_ | refine blk_alloc ?_ _)); refine blk_put (cs := #[.int .i64 ((rd_T47 l0_2 (rd t104 x7_2)).kind), .string ((rd_T47 l0_2 (rd t104 x7_2)).atom.pred), .slice A111_2 ((rd_T47 l0_2 (rd t104 x7_2)).atom.args).length c111_2, .string ((rd_T47 l0_2 (rd t104 x7_2)).op), .bool ((rd_T47 l0_2 (rd t104 x7_2)).l.isVar), .string ((rd_T47 l0_2 (rd t104 x7_2)).l.name), .bool ((rd_T47 l0_2 (rd t104 x7_2)).l.val.isSym), .string ((rd_T47 l0_2 (rd t104 x7_2)).l.val.sym), .int .i64 ((rd_T47 l0_2 (rd t104 x7_2)).l.val.n), .bool ((rd_T47 l0_2 (rd t104 x7_2)).r.isVar), .string (⟨#[]⟩ : ByteArray), .bool false, .string (⟨#[]⟩ : ByteArray), .int .i64 0]) ?_ 10 _ rfl; (with_reducible repeat (first | refine blk_drewN ?_ _ | refine blk_drew ?_ | refine blk_alloc ?_ _)); refine blk_put (cs := #[.int .i64 ((rd_T47 l0_2 (rd t104 x7_2)).kind), .string ((rd_T47 l0_2 (rd t104 x7_2)).atom.pred), .slice A111_2 ((rd_T47 l0_2 (rd t104 x7_2)).atom.args).length c111_2, .string ((rd_T47 l0_2 (rd t104 x7_2)).op), .bool ((rd_T47 l0_2 (rd t104 x7_2)).l.isVar), .string ((rd_T47 l0_2 (rd t104 x7_2)).l.name), .bool ((rd_T47 l0_2 (rd t104 x7_2)).l.val.isSym), .string ((rd_T47 l0_2 (rd t104 x7_2)).l.val.sym), .int .i64 ((rd_T47 l0_2 (rd t104 x7_2)).l.val.n), .bool false, .string (⟨#[]⟩ : ByteArray), .bool false, .string (⟨#[]⟩ : ByteArray), .int .i64 0]) ?_ 9 _ rfl; (with_reducible repeat (first | refine blk_drewN ?_ _ | refine blk_drew ?_ | refine blk_alloc ?_ _)); refine blk_put (cs := #[.int .i64 ((rd_T47 l0_2 (rd t104 x7_2)).kind), .string ((rd_T47 l0_2 (rd t104 x7_2)).atom.pred), .slice A111_2 ((rd_T47 l0_2 (rd t104 x7_2)).atom.args).length c111_2, .string ((rd_T47 l0_2 (rd t104 x7_2)).op), .bool ((rd_T47 l0_2 (rd t104 x7_2)).l.isVar), .string ((rd_T47 l0_2 (rd t104 x7_2)).l.name), .bool ((rd_T47 l0_2 (rd t104 x7_2)).l.val.isSym), .string ((rd_T47 l0_2 (rd t104 x7_2)).l.val.sym), .int .i64 0, .bool false, .string (⟨#[]⟩ : ByteArray), .bool false, .string (⟨#[]⟩ : ByteArray), .int .i64 0]) ?_ 8 _ rfl; (with_reducible repeat (first | refine blk_drewN ?_ _ | refine blk_drew ?_ | refine blk_alloc ?_ _)); refine blk_put (cs := #[.int .i64 ((rd_T47 l0_2 (rd t104 x7_2)).kind), .string ((rd_T47 l0_2 (rd t104 x7_2)).atom.pred), .slice A111_2 ((rd_T47 l0_2 (rd t104 x7_2)).atom.args).length c111_2, .string ((rd_T47 l0_2 (rd t104 x7_2)).op), .bool ((rd_T47 l0_2 (rd t104 x7_2)).l.isVar), .string ((rd_T47 l0_2 (rd t104 x7_2)).l.name), .bool ((rd_T47 l0_2 (rd t104 x7_2)).l.val.isSym), .string (⟨#[]⟩ : ByteArray), .int .i64 0, .bool false, .string (⟨#[]⟩ : ByteArray), .bool false, .string (⟨#[]⟩ : ByteArray), .int .i64 0]) ?_ 7 _ rfl; (with_reducible repeat (first | refine blk_drewN ?_ _ | refine blk_drew ?_ | refine blk_alloc ?_ _)); refine blk_put (cs := #[.int .i64 ((rd_T47 l0_2 (rd t104 x7_2)).kind), .string ((rd_T47 l0_2 (rd t104 x7_2)).atom.pred), .slice A111_2 ((rd_T47 l0_2 (rd t104 x7_2)).atom.args).length c111_2, .string ((rd_T47 l0_2 (rd t104 x7_2)).op), .bool ((rd_T47 l0_2 (rd t104 x7_2)).l.isVar), .string ((rd_T47 l0_2 (rd t104 x7_2)).l.name), .bool false, .string (⟨#[]⟩ : ByteArray), .int .i64 0, .bool false, .string (⟨#[]⟩ : ByteArray), .bool false, .string (⟨#[]⟩ : ByteArray), .int .i64 0]) ?_ 6 _ rfl; (with_reducible repeat (first | refine blk_drewN ?_ _ | refine blk_drew ?_ | refine blk_alloc ?_ _)); refine blk_put (cs := #[.int .i64 ((rd_T47 l0_2 (rd t104 x7_2)).kind), .string ((rd_T47 l0_2 (rd t104 x7_2)).atom.pred), .slice A111_2 ((rd_T47 l0_2 (rd t104 x7_2)).atom.args).length c111_2, .string ((rd_T47 l0_2 (rd t104 x7_2)).op), .bool ((rd_T47 l0_2 (rd t104 x7_2)).l.isVar), .string (⟨#[]⟩ : ByteArray), .bool false, .string (⟨#[]⟩ : ByteArray), .int .i64 0, .bool false, .string (⟨#[]⟩ : ByteArray), .bool false, .string (⟨#[]⟩ : ByteArray), .int .i64 0]) ?_ 5 _ rfl; (with_reducible repeat (first | refine blk_drewN ?_ _ | refine blk_drew ?_ | refine blk_alloc ?_ _)); refine blk_put (cs := #[.int .i64 ((rd_T47 l0_2 (rd t104 x7_2)).kind), .string ((rd_T47 l0_2 (rd t104 x7_2)).atom.pred), .slice A111_2 ((rd_T47 l0_2 (rd t104 x7_2)).atom.args).length c111_2, .string ((rd_T47 l0_2 (rd t104 x7_2)).op), .bool false, .string (⟨#[]⟩ : ByteArray), .bool false, .string (⟨#[]⟩ : ByteArray), .int .i64 0, .bool false, .string (⟨#[]⟩ : ByteArray), .bool false, .string (⟨#[]⟩ : ByteArray), .int .i64 0]) ?_ 4 _ rfl; (with_reducible repeat (first | refine blk_drewN ?_ _ | refine blk_drew ?_ | refine blk_alloc ?_ _)); refine blk_put (cs := #[.int .i64 ((rd_T47 l0_2 (rd t104 x7_2)).kind), .string ((rd_T47 l0_2 (rd t104 x7_2)).atom.pred), .slice A111_2 ((rd_T47 l0_2 (rd t104 x7_2)).atom.args).length c111_2, .string (⟨#[]⟩ : ByteArray), .bool false, .string (⟨#[]⟩ : ByteArray), .bool false, .string (⟨#[]⟩ : ByteArray), .int .i64 0, .bool false, .string (⟨#[]⟩ : ByteArray), .bool false, .string (⟨#[]⟩ : ByteArray), .int .i64 0]) ?_ 3 _ rfl; (with_reducible repeat (first | refine blk_drewN ?_ _ | refine blk_drew ?_ | refine blk_alloc ?_ _)); refine blk_put (cs := #[.int .i64 ((rd_T47 l0_2 (rd t104 x7_2)).kind), .string ((rd_T47 l0_2 (rd t104 x7_2)).atom.pred), .slice none 0 0, .string (⟨#[]⟩ : ByteArray), .bool false, .string (⟨#[]⟩ : ByteArray), .bool false, .string (⟨#[]⟩ : ByteArray), .int .i64 0, .bool false, .string (⟨#[]⟩ : ByteArray), .bool false, .string (⟨#[]⟩ : ByteArray), .int .i64 0]) ?_ 2 _ rfl; (with_reducible repeat (first | refine blk_drewN ?_ _ | refine blk_drew ?_ | refine blk_alloc ?_ _)); refine blk_put (cs := #[.int .i64 ((rd_T47 l0_2 (rd t104 x7_2)).kind), .string (⟨#[]⟩ : ByteArray), .slice none 0 0, .string (⟨#[]⟩ : ByteArray), .bool false, .string (⟨#[]⟩ : ByteArray), .bool false, .string (⟨#[]⟩ : ByteArray), .int .i64 0, .bool false, .string (⟨#[]⟩ : ByteArray), .bool false, .string (⟨#[]⟩ : ByteArray), .int .i64 0]) ?_ 1 _ rfl; (with_reducible repeat (first | refine blk_drewN ?_ _ | refine blk_drew ?_ | refine blk_alloc ?_ _)); refine blk_put (cs := #[.int .i64 0, .string (⟨#[]⟩ : ByteArray), .slice none 0 0, .string (⟨#[]⟩ : ByteArray), .bool false, .string (⟨#[]⟩ : ByteArray), .bool false, .string (⟨#[]⟩ : ByteArray), .int .i64 0, .bool false, .string (⟨#[]⟩ : ByteArray), .bool false, .string (⟨#[]⟩ : ByteArray), .int .i64 0]) ?_ 0 _ rfl; (with_reducible repeat (first | refine blk_drewN ?_ _ | refine blk_drew ?_ | refine blk_alloc ?_ _)); exact BK112.out⟩, ⟨by repeat (first | (with_reducible first | exact HB.out | apply below_alloc | apply pw_below_drewN | apply below_drew1 | refine below_set ?_ GE101.out | refine below_set ?_ GE112.out) | exact HB.out)⟩⟩
                case round =>
                 clear H'
                 try clear c1
                 try clear p1
                 try clear q1
                 try clear hx1
                 try clear c2
                 try clear p2
                 try clear c3
                 try clear c4
                 try clear c5
                 try clear p6
                 try clear p10
                 try clear q10
                 try clear hx10
                 try clear c11
                 try clear p11
                 try clear q11
                 try clear hx11
                 try clear c13
                 try clear c13b0
                 try clear c13b1
                 try clear c15
                 try clear c16
                 try clear c17
                 try clear c18
                 try clear c18b0
                 try clear c21
                 try clear c21b0
                 try clear c22
                 try clear c22b0
                 try clear c25
                 try clear c26
                 try clear c26b0
                 try clear c27
                 try clear c27b0
                 try clear c28
                 try clear c28b0
                 try clear c29
                 try clear c29b0
                 try clear c30
                 try clear c30b0
                 try clear c30b1
                 try clear c47
                 try clear hcz11_0
                 try clear hcz11_1
                 try clear hcz11_2
                 try clear hcz15_0
                 try clear hcz15_1
                 try clear hcz15_2
                 try clear hcz48_0
                 try clear hcz48_1
                 try clear hcz48_10
                 try clear hcz48_11
                 try clear hcz48_12
                 try clear hcz48_13
                 try clear hcz48_2
                 try clear hcz48_3
                 try clear hcz48_4
                 try clear hcz48_5
                 try clear hcz48_6
                 try clear hcz48_7
                 try clear hcz48_8
                 try clear hcz48_9
                 try clear hcz9_0
                 try clear hcz9_1
                 try clear hcz9_2
                 try clear hfz11_0
                 try clear hfz11_1
                 try clear hfz11_2
                 try clear hfz15_0
                 try clear hfz15_1
                 try clear hfz15_2
                 try clear hfz48_0
                 try clear hfz48_1
                 try clear hfz48_10
                 try clear hfz48_11
                 try clear hfz48_12
                 try clear hfz48_13
                 try clear hfz48_2
                 try clear hfz48_3
                 try clear hfz48_4
                 try clear hfz48_5
                 try clear hfz48_6
                 try clear hfz48_7
                 try clear hfz48_8
                 try clear hfz48_9
                 try clear hfz9_0
                 try clear hfz9_1
                 try clear hfz9_2
                 try clear hx108_0
                 try clear hx109_0
                 try clear hx110_0
                 try clear hx111_0
                 try clear hx111_1
                 try clear hx111_10
                 try clear hx111_11
                 try clear hx111_12
                 try clear hx111_13
                 try clear hx111_2
                 try clear hx111_3
                 try clear hx111_4
                 try clear hx111_5
                 try clear hx111_6
                 try clear hx111_7
                 try clear hx111_8
                 try clear hx111_9
                 try clear p1
                 try clear p10
                 try clear p108
                 try clear p109
                 try clear p110
                 try clear p111
                 try clear p2
                 try clear q1
                 try clear q10
                 try clear q108
                 try clear q109
                 try clear q110
                 try clear q111
                 obtain ⟨x9_4, rfl, HA, HK4, HO_4, HO_6, BK101, BK112, HB⟩ := hrel
                 cases gk with
                 | zero => exact absurd HA.out (by simp [lambrequinlaw13_PlanEarly.l1])
                 | succ k4 =>
                  have H := HA.out
                  clear HA
                  simp only [lambrequinlaw13_PlanEarly.l1] at H
                  by_cases c49 : x9_4 < (t104.length : Int)
                  ·rw [if_pos c49] at H
                   have c49b0 : decide (x9_4 < (t104.length : Int)) = true := decide_eq_true c49
                   clear c49
                   have HC50 := Aside0.mk H
                   clear H
                   go_upto_region 18 with (fail)
                   go_cut [90] (fun v90 wc => ∃ (kq : Nat) (x90_49 : Bool), v90 = .bool x90_49 ∧ Aside0 (lambrequinlaw13_PlanEarly.j4 kq t102 t104 x6_2 x7_2 x9_4 x90_49 a0_0 l0_1 l0_2 ((rd_T47 l0_2 (rd t104 x7_2)).kind) ((rd_T47 l0_2 (rd t104 x7_2)).atom.pred) ((rd_T47 l0_2 (rd t104 x7_2)).atom.args) ((rd_T47 l0_2 (rd t104 x7_2)).op) ((rd_T47 l0_2 (rd t104 x7_2)).l.isVar) ((rd_T47 l0_2 (rd t104 x7_2)).l.name) ((rd_T47 l0_2 (rd t104 x7_2)).l.val.isSym) ((rd_T47 l0_2 (rd t104 x7_2)).l.val.sym) ((rd_T47 l0_2 (rd t104 x7_2)).l.val.n) ((rd_T47 l0_2 (rd t104 x7_2)).r.isVar) ((rd_T47 l0_2 (rd t104 x7_2)).r.name) ((rd_T47 l0_2 (rd t104 x7_2)).r.val.isSym) ((rd_T47 l0_2 (rd t104 x7_2)).r.val.sym) ((rd_T47 l0_2 (rd t104 x7_2)).r.val.n) = some r) ∧ Aside0 (kq ≤ k4) ∧ Aside0 (Kd.R (Kd.int .i64) 3 wc w.heap.size (fun _ => True) (.slice (some ad110) t104.length co20) t104) ∧ Aside0 (Kd.R Kd.string 9 wc w.heap.size (fun _ => True) u6 x6_2) ∧ Aside0 (wc.heap[gb101]? = some (.cells #[.string a0_0, (.slice A0_1 l0_1.length c0_1), (.slice (some ad111) l0_2.length c0_2)] 27 (0, 0))) ∧ Aside0 (wc.heap[gb112]? = some (.cells #[.int .i64 ((rd_T47 l0_2 (rd t104 x7_2)).kind), .string ((rd_T47 l0_2 (rd t104 x7_2)).atom.pred), (.slice A111_2 ((rd_T47 l0_2 (rd t104 x7_2)).atom.args).length c111_2), .string ((rd_T47 l0_2 (rd t104 x7_2)).op), .bool ((rd_T47 l0_2 (rd t104 x7_2)).l.isVar), .string ((rd_T47 l0_2 (rd t104 x7_2)).l.name), .bool ((rd_T47 l0_2 (rd t104 x7_2)).l.val.isSym), .string ((rd_T47 l0_2 (rd t104 x7_2)).l.val.sym), .int .i64 ((rd_T47 l0_2 (rd t104 x7_2)).l.val.n), .bool ((rd_T47 l0_2 (rd t104 x7_2)).r.isVar), .string ((rd_T47 l0_2 (rd t104 x7_2)).r.name), .bool ((rd_T47 l0_2 (rd t104 x7_2)).r.val.isSym), .string ((rd_T47 l0_2 (rd t104 x7_2)).r.val.sym), .int .i64 ((rd_T47 l0_2 (rd t104 x7_2)).r.val.n)] 47 (0, 0))) ∧ Aside0 (Below w.heap.size w wc))
                   case first =>
                    have H := HC50.out
                    clear HC50
                    by_cases c51 : 0 ≤ x9_4
                    ·rw [if_pos c51] at H
                     have c51b0 : decide (0 ≤ x9_4) = true := decide_eq_true c51
                     clear c51
                     (first | rw [c51b0] | (simp only [i64_w, i32_w]; rw [c51b0]) | skip)
                     by_cases c52 : (rd t104 x9_4) < 0
                     ·rw [if_pos c52] at H
                      have c52b0 : decide ((rd t104 x9_4) < 0) = true := decide_eq_true c52
                      clear c52
                      have H' := Aside0.mk H
                      clear H
                      try go_wp2
                      have n0_ := Aside0.mk (Kd.R_drew HO_4.out)
                      have n1_ := Aside0.mk (Kd.R_drew HO_6.out)
                      have n2_ := Aside0.mk (blk_drew BK101.out)
                      have n3_ := Aside0.mk (blk_drew BK112.out)
                      have n4_ := Aside0.mk (below_drew1 HB.out)
                      clear HO_4
                      clear HO_6
                      clear BK101
                      clear BK112
                      clear HB
                      have HO_4 := n0_
                      have HO_6 := n1_
                      have BK101 := n2_
                      have BK112 := n3_
                      have HB := n4_
                      clear n0_ n1_ n2_ n3_ n4_
                      have p119 : 0 ≤ (x9_4 : Int) := of_decide_eq_true (by first | (with_reducible assumption) | assumption)
                      have q119 : x9_4 < (t104.length : Int) := of_decide_eq_true (by first | (with_reducible assumption) | assumption)
                      obtain ⟨ad119, e119, hx119_0⟩ := Kd.at_int (Kd.R_reads' HO_4.out).2.2 x9_4 p119 q119
                      obtain rfl : ad110 = ad119 := (by injection e119)
                      replace p119 := eq_true p119
                      replace q119 := eq_true q119
                      refine start_ (n := 15) (S := fun w' => w'.cell? (ad110.add (x9_4).toNat) = some (.int .i64 (rd t104 x9_4))) (ds := []) #[false, false, false, false, false, false, false, false, false, false, false, false, false, false, false] (by kernel_rfl) rfl rfl (hx119_0) (fun hHeld => ?_); refine with_tabW lambrequinlaw13_PlanEarly.tab18 lambrequinlaw13_PlanEarly.bits18 (fun HT_ HW_ => ?_)
                      generalize wr.drew = w53 at HO_4 HO_6 BK101 BK112 HB hx119_0 hHeld ⊢
                      refine pure_ (i := 0) (N := some 76) (v := ?_) (a' := ?_) #[true, false, false, false, false, false, false, false, false, false, false, false, false, false, false] rfl rfl (any_of HT_.out (by kernel_rfl)) (fun _ _ _ h => h) (Or.inl ⟨by rfl, ?_⟩) ?_ ?_
                      rotate_left
                      ·intro w'
                       go_simp
                       with_reducible rfl
                      rotate_left
                      ·simp only [Act.put, List.setIfInBounds_toArray, List.set_cons_zero, List.set_cons_succ, i64_w, i32_w]
                       rfl
                      refine pure_ (i := 1) (N := some 77) (v := ?_) (a' := ?_) #[true, true, false, false, false, false, false, false, false, false, false, false, false, false, false] rfl rfl (any_of HT_.out (by kernel_rfl)) (fun _ _ _ h => h) (Or.inl ⟨by rfl, ?_⟩) ?_ ?_
                      rotate_left
                      ·intro w'
                       go_simp
                       with_reducible rfl
                      rotate_left
                      ·simp only [Act.put, List.setIfInBounds_toArray, List.set_cons_zero, List.set_cons_succ, i64_w, i32_w]
                       rfl
                      refine pure_ (i := 2) (N := some 78) (v := ?_) (a' := ?_) #[true, true, true, false, false, false, false, false, false, false, false, false, false, false, false] rfl rfl (any_of HT_.out (by kernel_rfl)) (fun _ _ _ h => h) (Or.inl ⟨by rfl, ?_⟩) ?_ ?_
                      rotate_left
                      ·intro w'
                       go_simp
                       with_reducible rfl
                      rotate_left
                      ·simp only [Act.put, List.setIfInBounds_toArray, List.set_cons_zero, List.set_cons_succ, i64_w, i32_w]
                       rfl
                      refine take_ (i := 3) (N := some 79) (v := ?_) (a' := ?_) #[true, true, true, true, false, false, false, false, false, false, false, false, false, false, false] rfl rfl (take_ofW HT_.out HW_.out (by kernel_rfl)) (fun _ _ _ h => h) (Or.inl ⟨by rfl, ?_⟩) hHeld ?_ ?_
                      rotate_left
                      ·intro w' s0
                       go_simp
                       with_reducible rfl
                      rotate_left
                      ·simp only [Act.put, List.setIfInBounds_toArray, List.set_cons_zero, List.set_cons_succ, i64_w, i32_w]
                       rfl
                      refine pure_ (i := 4) (N := some 80) (v := ?_) (a' := ?_) #[true, true, true, true, true, false, false, false, false, false, false, false, false, false, false] rfl rfl (any_of HT_.out (by kernel_rfl)) (fun _ _ _ h => h) (Or.inl ⟨by rfl, ?_⟩) ?_ ?_
                      rotate_left
                      ·intro w'
                       go_simp
                       with_reducible rfl
                      rotate_left
                      ·simp only [Act.put, List.setIfInBounds_toArray, List.set_cons_zero, List.set_cons_succ, i64_w, i32_w]
                       rfl
                      refine pure_ (i := 5) (N := some 81) (v := ?_) (a' := ?_) #[true, true, true, true, true, true, false, false, false, false, false, false, false, false, false] rfl rfl (any_of HT_.out (by kernel_rfl)) (fun _ _ _ h => h) (Or.inl ⟨by rfl, ?_⟩) ?_ ?_
                      rotate_left
                      ·intro w'
                       go_simp
                       with_reducible rfl
                      rotate_left
                      ·simp only [Act.put, List.setIfInBounds_toArray, List.set_cons_zero, List.set_cons_succ, i64_w, i32_w]
                       rfl
                      refine pure_ (i := 6) (N := some 82) (v := undef) (a' := ?_) #[true, true, true, true, true, true, true, false, false, false, false, false, false, false, false] rfl rfl (any_of HT_.out (by kernel_rfl)) (fun _ _ _ h => h) (Or.inr ⟨by rfl, rfl⟩) ?_ ?_
                      rotate_left
                      ·simp only [Act.put, List.setIfInBounds_toArray, List.set_cons_zero, List.set_cons_succ, i64_w, i32_w]
                       rfl
                      refine pure_ (i := 7) (N := some 83) (v := undef) (a' := ?_) #[true, true, true, true, true, true, true, true, false, false, false, false, false, false, false] rfl rfl (any_of HT_.out (by kernel_rfl)) (fun _ _ _ h => h) (Or.inr ⟨by rfl, rfl⟩) ?_ ?_
                      rotate_left
                      ·simp only [Act.put, List.setIfInBounds_toArray, List.set_cons_zero, List.set_cons_succ, i64_w, i32_w]
                       rfl
                      refine pure_ (i := 8) (N := some 84) (v := undef) (a' := ?_) #[true, true, true, true, true, true, true, true, true, false, false, false, false, false, false] rfl rfl (any_of HT_.out (by kernel_rfl)) (fun _ _ _ h => h) (Or.inr ⟨by rfl, rfl⟩) ?_ ?_
                      rotate_left
                      ·simp only [Act.put, List.setIfInBounds_toArray, List.set_cons_zero, List.set_cons_succ, i64_w, i32_w]
                       rfl
                      refine pure_ (i := 9) (N := some 85) (v := undef) (a' := ?_) #[true, true, true, true, true, true, true, true, true, true, false, false, false, false, false] rfl rfl (any_of HT_.out (by kernel_rfl)) (fun _ _ _ h => h) (Or.inr ⟨by rfl, rfl⟩) ?_ ?_
                      rotate_left
                      ·simp only [Act.put, List.setIfInBounds_toArray, List.set_cons_zero, List.set_cons_succ, i64_w, i32_w]
                       rfl
                      refine pure_ (i := 10) (N := some 86) (v := undef) (a' := ?_) #[true, true, true, true, true, true, true, true, true, true, true, false, false, false, false] rfl rfl (any_of HT_.out (by kernel_rfl)) (fun _ _ _ h => h) (Or.inr ⟨by rfl, rfl⟩) ?_ ?_
                      rotate_left
                      ·simp only [Act.put, List.setIfInBounds_toArray, List.set_cons_zero, List.set_cons_succ, i64_w, i32_w]
                       rfl
                      refine pure_ (i := 11) (N := some 87) (v := undef) (a' := ?_) #[true, true, true, true, true, true, true, true, true, true, true, true, false, false, false] rfl rfl (any_of HT_.out (by kernel_rfl)) (fun _ _ _ h => h) (Or.inr ⟨by rfl, rfl⟩) ?_ ?_
                      rotate_left
                      ·simp only [Act.put, List.setIfInBounds_toArray, List.set_cons_zero, List.set_cons_succ, i64_w, i32_w]
                       rfl
                      refine pure_ (i := 12) (N := some 88) (v := undef) (a' := ?_) #[true, true, true, true, true, true, true, true, true, true, true, true, true, false, false] rfl rfl (any_of HT_.out (by kernel_rfl)) (fun _ _ _ h => h) (Or.inr ⟨by rfl, rfl⟩) ?_ ?_
                      rotate_left
                      ·simp only [Act.put, List.setIfInBounds_toArray, List.set_cons_zero, List.set_cons_succ, i64_w, i32_w]
                       rfl
                      refine pure_ (i := 13) (N := some 89) (v := undef) (a' := ?_) #[true, true, true, true, true, true, true, true, true, true, true, true, true, true, false] rfl rfl (any_of HT_.out (by kernel_rfl)) (fun _ _ _ h => h) (Or.inr ⟨by rfl, rfl⟩) ?_ ?_
                      rotate_left
                      ·simp only [Act.put, List.setIfInBounds_toArray, List.set_cons_zero, List.set_cons_succ, i64_w, i32_w]
                       rfl
                      refine pure_ (i := 14) (N := some 90) (v := ?_) (a' := ?_) #[true, true, true, true, true, true, true, true, true, true, true, true, true, true, true] rfl rfl (any_of HT_.out (by kernel_rfl)) (fun _ _ _ h => h) (Or.inl ⟨by rfl, ?_⟩) ?_ ?_
                      rotate_left
                      ·intro w'
                       go_simp
                       with_reducible rfl
                      rotate_left
                      ·simp only [Act.put, List.setIfInBounds_toArray, List.set_cons_zero, List.set_cons_succ, i64_w, i32_w]
                       rfl
                      refine done_ (done_of HT_.out (by kernel_rfl)) ?_
                      try go_wp2
                      go_meet
                      case rel => exact ⟨_, (true), (by first | rfl | (simp; done) | (simp [*]; done)), H', ⟨by have := HJ5.out; have := HK2.out; have := HJ18.out; have := HK4.out; first | omega | exact Nat.le_refl _⟩, ⟨by (with_reducible repeat (first | apply Kd.R_alloc | apply Kd.R_drewN | apply Kd.R_drew)); exact HO_4.out⟩, ⟨by (with_reducible repeat (first | apply Kd.R_alloc | apply Kd.R_drewN | apply Kd.R_drew)); exact HO_6.out⟩, ⟨by (with_reducible repeat (first | refine blk_drewN ?_ _ | refine blk_drew ?_ | refine blk_alloc ?_ _)); exact BK101.out⟩, ⟨by (with_reducible repeat (first | refine blk_drewN ?_ _ | refine blk_drew ?_ | refine blk_alloc ?_ _)); exact BK112.out⟩, ⟨by repeat (first | (with_reducible first | exact HB.out | apply below_alloc | apply pw_below_drewN | apply below_drew1 | refine below_set ?_ GE101.out | refine below_set ?_ GE112.out) | exact HB.out)⟩⟩
                     ·rw [if_neg c52] at H
                      have c52b0 : decide ((rd t104 x9_4) < 0) = false := decide_eq_false c52
                      clear c52
                      have H' := Aside0.mk H
                      clear H
                      try go_wp2
                      have n0_ := Aside0.mk (Kd.R_drew HO_4.out)
                      have n1_ := Aside0.mk (Kd.R_drew HO_6.out)
                      have n2_ := Aside0.mk (blk_drew BK101.out)
                      have n3_ := Aside0.mk (blk_drew BK112.out)
                      have n4_ := Aside0.mk (below_drew1 HB.out)
                      clear HO_4
                      clear HO_6
                      clear BK101
                      clear BK112
                      clear HB
                      have HO_4 := n0_
                      have HO_6 := n1_
                      have BK101 := n2_
                      have BK112 := n3_
                      have HB := n4_
                      clear n0_ n1_ n2_ n3_ n4_
                      have p119 : 0 ≤ (x9_4 : Int) := of_decide_eq_true (by first | (with_reducible assumption) | assumption)
                      have q119 : x9_4 < (t104.length : Int) := of_decide_eq_true (by first | (with_reducible assumption) | assumption)
                      obtain ⟨ad119, e119, hx119_0⟩ := Kd.at_int (Kd.R_reads' HO_4.out).2.2 x9_4 p119 q119
                      obtain rfl : ad110 = ad119 := (by injection e119)
                      replace p119 := eq_true p119
                      replace q119 := eq_true q119
                      have p120 : 0 ≤ (x9_4 : Int) := of_decide_eq_true (by first | (with_reducible assumption) | assumption)
                      have q120 : x9_4 < (t104.length : Int) := of_decide_eq_true (by first | (with_reducible assumption) | assumption)
                      obtain ⟨ad120, e120, hx120_0⟩ := Kd.at_int (Kd.R_reads' HO_4.out).2.2 x9_4 p120 q120
                      obtain rfl : ad110 = ad120 := (by injection e120)
                      replace p120 := eq_true p120
                      replace q120 := eq_true q120
                      refine start_ (n := 15) (S := fun w' => w'.cell? ⟨gb101, 0, none⟩ = some (.string a0_0) ∧ w'.cell? ⟨gb101, 1, none⟩ = some (.slice A0_1 l0_1.length c0_1) ∧ w'.cell? ⟨gb101, 2, none⟩ = some (.slice (some ad111) l0_2.length c0_2) ∧ w'.cell? (ad110.add (x9_4).toNat) = some (.int .i64 (rd t104 x9_4)) ∧ w'.cell? (ad110.add (x9_4).toNat) = some (.int .i64 (rd t104 x9_4))) (ds := []) #[false, false, false, false, false, false, false, false, false, false, false, false, false, false, false] (by kernel_rfl) rfl rfl ⟨(blk_cell BK101.out 0).trans rfl, (blk_cell BK101.out 1).trans rfl, (blk_cell BK101.out 2).trans rfl, hx119_0, hx120_0⟩ (fun hHeld => ?_); refine with_tabW lambrequinlaw13_PlanEarly.tab18 lambrequinlaw13_PlanEarly.bits18 (fun HT_ HW_ => ?_)
                      generalize wr.drew = w54 at HO_4 HO_6 BK101 BK112 HB hx119_0 hx120_0 hHeld ⊢
                      refine pure_ (i := 0) (N := some 76) (v := ?_) (a' := ?_) #[true, false, false, false, false, false, false, false, false, false, false, false, false, false, false] rfl rfl (any_of HT_.out (by kernel_rfl)) (fun _ _ _ h => h) (Or.inl ⟨by rfl, ?_⟩) ?_ ?_
                      rotate_left
                      ·intro w'
                       go_simp
                       with_reducible rfl
                      rotate_left
                      ·simp only [Act.put, List.setIfInBounds_toArray, List.set_cons_zero, List.set_cons_succ, i64_w, i32_w]
                       rfl
                      refine pure_ (i := 1) (N := some 77) (v := ?_) (a' := ?_) #[true, true, false, false, false, false, false, false, false, false, false, false, false, false, false] rfl rfl (any_of HT_.out (by kernel_rfl)) (fun _ _ _ h => h) (Or.inl ⟨by rfl, ?_⟩) ?_ ?_
                      rotate_left
                      ·intro w'
                       go_simp
                       with_reducible rfl
                      rotate_left
                      ·simp only [Act.put, List.setIfInBounds_toArray, List.set_cons_zero, List.set_cons_succ, i64_w, i32_w]
                       rfl
                      refine pure_ (i := 2) (N := some 78) (v := ?_) (a' := ?_) #[true, true, true, false, false, false, false, false, false, false, false, false, false, false, false] rfl rfl (any_of HT_.out (by kernel_rfl)) (fun _ _ _ h => h) (Or.inl ⟨by rfl, ?_⟩) ?_ ?_
                      rotate_left
                      ·intro w'
                       go_simp
                       with_reducible rfl
                      rotate_left
                      ·simp only [Act.put, List.setIfInBounds_toArray, List.set_cons_zero, List.set_cons_succ, i64_w, i32_w]
                       rfl
                      refine take_ (i := 3) (N := some 79) (v := ?_) (a' := ?_) #[true, true, true, true, false, false, false, false, false, false, false, false, false, false, false] rfl rfl (take_ofW HT_.out HW_.out (by kernel_rfl)) (fun _ _ _ h => h) (Or.inl ⟨by rfl, ?_⟩) hHeld ?_ ?_
                      rotate_left
                      ·rintro w' ⟨s0, s1, s2, s3, s4⟩
                       go_simp
                       with_reducible rfl
                      rotate_left
                      ·simp only [Act.put, List.setIfInBounds_toArray, List.set_cons_zero, List.set_cons_succ, i64_w, i32_w]
                       rfl
                      refine pure_ (i := 4) (N := some 80) (v := ?_) (a' := ?_) #[true, true, true, true, true, false, false, false, false, false, false, false, false, false, false] rfl rfl (any_of HT_.out (by kernel_rfl)) (fun _ _ _ h => h) (Or.inl ⟨by rfl, ?_⟩) ?_ ?_
                      rotate_left
                      ·intro w'
                       go_simp
                       with_reducible rfl
                      rotate_left
                      ·simp only [Act.put, List.setIfInBounds_toArray, List.set_cons_zero, List.set_cons_succ, i64_w, i32_w]
                       rfl
                      refine pure_ (i := 5) (N := some 81) (v := ?_) (a' := ?_) #[true, true, true, true, true, true, false, false, false, false, false, false, false, false, false] rfl rfl (any_of HT_.out (by kernel_rfl)) (fun _ _ _ h => h) (Or.inl ⟨by rfl, ?_⟩) ?_ ?_
                      rotate_left
                      ·intro w'
                       go_simp
                       with_reducible rfl
                      rotate_left
                      ·simp only [Act.put, List.setIfInBounds_toArray, List.set_cons_zero, List.set_cons_succ, i64_w, i32_w]
                       rfl
                      refine pure_ (i := 6) (N := some 82) (v := ?_) (a' := ?_) #[true, true, true, true, true, true, true, false, false, false, false, false, false, false, false] rfl rfl (any_of HT_.out (by kernel_rfl)) (fun _ _ _ h => h) (Or.inl ⟨by rfl, ?_⟩) ?_ ?_
                      rotate_left
                      ·intro w'
                       go_simp
                       with_reducible rfl
                      rotate_left
                      ·simp only [Act.put, List.setIfInBounds_toArray, List.set_cons_zero, List.set_cons_succ, i64_w, i32_w]
                       rfl
                      refine pure_ (i := 7) (N := some 83) (v := ?_) (a' := ?_) #[true, true, true, true, true, true, true, true, false, false, false, false, false, false, false] rfl rfl (any_of HT_.out (by kernel_rfl)) (fun _ _ _ h => h) (Or.inl ⟨by rfl, ?_⟩) ?_ ?_
                      rotate_left
                      ·intro w'
                       go_simp
                       with_reducible rfl
                      rotate_left
                      ·simp only [Act.put, List.setIfInBounds_toArray, List.set_cons_zero, List.set_cons_succ, i64_w, i32_w]
                       rfl
                      refine pure_ (i := 8) (N := some 84) (v := ?_) (a' := ?_) #[true, true, true, true, true, true, true, true, true, false, false, false, false, false, false] rfl rfl (any_of HT_.out (by kernel_rfl)) (fun _ _ _ h => h) (Or.inl ⟨by rfl, ?_⟩) ?_ ?_
                      rotate_left
                      ·intro w'
                       go_simp
                       with_reducible rfl
                      rotate_left
                      ·simp only [Act.put, List.setIfInBounds_toArray, List.set_cons_zero, List.set_cons_succ, i64_w, i32_w]
                       rfl
                      refine pure_ (i := 10) (N := some 86) (v := ?_) (a' := ?_) #[true, true, true, true, true, true, true, true, true, false, true, false, false, false, false] rfl rfl (any_of HT_.out (by kernel_rfl)) (fun _ _ _ h => h) (Or.inl ⟨by rfl, ?_⟩) ?_ ?_
                      rotate_left
                      ·intro w'
                       go_simp
                       with_reducible rfl
                      rotate_left
                      ·simp only [Act.put, List.setIfInBounds_toArray, List.set_cons_zero, List.set_cons_succ, i64_w, i32_w]
                       rfl
                      refine take_ (i := 9) (N := some 85) (v := ?_) (a' := ?_) #[true, true, true, true, true, true, true, true, true, true, true, false, false, false, false] rfl rfl (take_ofW HT_.out HW_.out (by kernel_rfl)) (fun _ _ _ h => h) (Or.inl ⟨by rfl, ?_⟩) hHeld ?_ ?_
                      rotate_left
                      ·rintro w' ⟨s0, s1, s2, s3, s4⟩
                       go_simp
                       with_reducible rfl
                      rotate_left
                      ·simp only [Act.put, List.setIfInBounds_toArray, List.set_cons_zero, List.set_cons_succ, i64_w, i32_w]
                       rfl
                      refine take_ (i := 11) (N := some 87) (v := ?_) (a' := ?_) #[true, true, true, true, true, true, true, true, true, true, true, true, false, false, false] rfl rfl (take_ofW HT_.out HW_.out (by kernel_rfl)) (fun _ _ _ h => h) (Or.inl ⟨by rfl, ?_⟩) hHeld ?_ ?_
                      rotate_left
                      ·rintro w' ⟨s0, s1, s2, s3, s4⟩
                       go_simp
                       with_reducible rfl
                      rotate_left
                      ·simp only [Act.put, List.setIfInBounds_toArray, List.set_cons_zero, List.set_cons_succ, i64_w, i32_w]
                       rfl
                      refine pure_ (i := 12) (N := some 88) (v := ?_) (a' := ?_) #[true, true, true, true, true, true, true, true, true, true, true, true, true, false, false] rfl rfl (any_of HT_.out (by kernel_rfl)) (fun _ _ _ h => h) (Or.inl ⟨by rfl, ?_⟩) ?_ ?_
                      rotate_left
                      ·intro w'
                       go_simp
                       with_reducible rfl
                      rotate_left
                      ·simp only [Act.put, List.setIfInBounds_toArray, List.set_cons_zero, List.set_cons_succ, i64_w, i32_w]
                       rfl
                      refine pure_ (i := 13) (N := some 89) (v := ?_) (a' := ?_) #[true, true, true, true, true, true, true, true, true, true, true, true, true, true, false] rfl rfl (any_of HT_.out (by kernel_rfl)) (fun _ _ _ h => h) (Or.inl ⟨by rfl, ?_⟩) ?_ ?_
                      rotate_left
                      ·intro w'
                       go_simp
                       with_reducible rfl
                      rotate_left
                      ·simp only [Act.put, List.setIfInBounds_toArray, List.set_cons_zero, List.set_cons_succ, i64_w, i32_w]
                       rfl
                      refine pure_ (i := 14) (N := some 90) (v := ?_) (a' := ?_) #[true, true, true, true, true, true, true, true, true, true, true, true, true, true, true] rfl rfl (any_of HT_.out (by kernel_rfl)) (fun _ _ _ h => h) (Or.inl ⟨by rfl, ?_⟩) ?_ ?_
                      rotate_left
                      ·intro w'
                       go_simp
                       with_reducible rfl
                      rotate_left
                      ·simp only [Act.put, List.setIfInBounds_toArray, List.set_cons_zero, List.set_cons_succ, i64_w, i32_w]
                       rfl
                      refine done_ (done_of HT_.out (by kernel_rfl)) ?_
                      try go_wp2
                      go_meet
                      case rel => exact ⟨_, (decide ((rd t104 x9_4) ≥ (l0_2.length : Int))), (by first | rfl | (simp; done) | (simp [*]; done)), H', ⟨by have := HJ5.out; have := HK2.out; have := HJ18.out; have := HK4.out; first | omega | exact Nat.le_refl _⟩, ⟨by (with_reducible repeat (first | apply Kd.R_alloc | apply Kd.R_drewN | apply Kd.R_drew)); exact HO_4.out⟩, ⟨by (with_reducible repeat (first | apply Kd.R_alloc | apply Kd.R_drewN | apply Kd.R_drew)); exact HO_6.out⟩, ⟨by (with_reducible repeat (first | refine blk_drewN ?_ _ | refine blk_drew ?_ | refine blk_alloc ?_ _)); exact BK101.out⟩, ⟨by (with_reducible repeat (first | refine blk_drewN ?_ _ | refine blk_drew ?_ | refine blk_alloc ?_ _)); exact BK112.out⟩, ⟨by repeat (first | (with_reducible first | exact HB.out | apply below_alloc | apply pw_below_drewN | apply below_drew1 | refine below_set ?_ GE101.out | refine below_set ?_ GE112.out) | exact HB.out)⟩⟩
                    ·rw [if_neg c51] at H
                     exact absurd H (by simp)
                   case rest =>
                    clear HC50
                    try clear c1
                    try clear p1
                    try clear q1
                    try clear hx1
                    try clear c2
                    try clear p2
                    try clear c3
                    try clear c4
                    try clear c5
                    try clear p6
                    try clear p10
                    try clear q10
                    try clear hx10
                    try clear c11
                    try clear p11
                    try clear q11
                    try clear hx11
                    try clear p12
                    try clear q12
                    try clear hx12
                    try clear c13
                    try clear c13b0
                    try clear c13b1
                    try clear c15
                    try clear c16
                    try clear c17
                    try clear c18
                    try clear c18b0
                    try clear c21
                    try clear c21b0
                    try clear c22
                    try clear c22b0
                    try clear c25
                    try clear c26
                    try clear c26b0
                    try clear c27
                    try clear c27b0
                    try clear c28
                    try clear c28b0
                    try clear c29
                    try clear c29b0
                    try clear c30
                    try clear c30b0
                    try clear c30b1
                    try clear c47
                    try clear c49
                    try clear c49b0
                    try clear c51
                    try clear c51b0
                    try clear c52
                    try clear c52b0
                    try clear hcz11_0
                    try clear hcz11_1
                    try clear hcz11_2
                    try clear hcz15_0
                    try clear hcz15_1
                    try clear hcz15_2
                    try clear hcz48_0
                    try clear hcz48_1
                    try clear hcz48_10
                    try clear hcz48_11
                    try clear hcz48_12
                    try clear hcz48_13
                    try clear hcz48_2
                    try clear hcz48_3
                    try clear hcz48_4
                    try clear hcz48_5
                    try clear hcz48_6
                    try clear hcz48_7
                    try clear hcz48_8
                    try clear hcz48_9
                    try clear hcz9_0
                    try clear hcz9_1
                    try clear hcz9_2
                    try clear hfz11_0
                    try clear hfz11_1
                    try clear hfz11_2
                    try clear hfz15_0
                    try clear hfz15_1
                    try clear hfz15_2
                    try clear hfz48_0
                    try clear hfz48_1
                    try clear hfz48_10
                    try clear hfz48_11
                    try clear hfz48_12
                    try clear hfz48_13
                    try clear hfz48_2
                    try clear hfz48_3
                    try clear hfz48_4
                    try clear hfz48_5
                    try clear hfz48_6
                    try clear hfz48_7
                    try clear hfz48_8
                    try clear hfz48_9
                    try clear hfz9_0
                    try clear hfz9_1
                    try clear hfz9_2
                    try clear hx108_0
                    try clear hx109_0
                    try clear hx110_0
                    try clear hx111_0
                    try clear hx111_1
                    try clear hx111_10
                    try clear hx111_11
                    try clear hx111_12
                    try clear hx111_13
                    try clear hx111_2
                    try clear hx111_3
                    try clear hx111_4
                    try clear hx111_5
                    try clear hx111_6
                    try clear hx111_7
                    try clear hx111_8
                    try clear hx111_9
                    try clear hx119_0
                    try clear hx120_0
                    try clear p1
                    try clear p10
                    try clear p108
                    try clear p109
                    try clear p11
                    try clear p110
                    try clear p111
                    try clear p119
                    try clear p120
                    try clear p2
                    try clear p6
                    try clear q1
                    try clear q10
                    try clear q108
                    try clear q109
                    try clear q11
                    try clear q110
                    try clear q111
                    try clear q119
                    try clear q120
                    obtain ⟨kq, x90_49, rfl, HA, HJ49, HO_4, HO_6, BK101, BK112, HB⟩ := hcut
                    cases kq with
                    | zero => exact absurd HA.out (by simp [lambrequinlaw13_PlanEarly.j4])
                    | succ kj49 =>
                     have H := HA.out
                     clear HA
                     simp only [lambrequinlaw13_PlanEarly.j4] at H
                     by_cases c55 : x90_49 = true
                     ·subst c55
                      have H1 : (some false) = some r := by rw [if_pos rfl] at H; exact H
                      clear H
                      have H := H1
                      clear H1
                      obtain rfl := Option.some.inj H
                      go_wp2
                      go_ret
                      exact ⟨by first | rfl | (simp [errW_none, errW_some] <;> rfl) | (simp [*, errW_none, errW_some] <;> rfl), by repeat (first | (with_reducible first | exact HB.out | apply below_alloc | apply pw_below_drewN | apply below_drew1 | refine below_set ?_ GE101.out | refine below_set ?_ GE112.out) | exact HB.out)⟩
                     ·replace c55 := Bool.eq_false_iff.mpr c55
                      subst c55
                      have H1 : (if 0 ≤ x9_4 then (if x9_4 < (t104.length : Int) then (if 0 ≤ (rd t104 x9_4) then (if (rd t104 x9_4) < (l0_2.length : Int) then (if ((rd_T47 l0_2 (rd t104 x9_4)).kind) = 1 then (lambrequinlaw13_PlanEarly.j5 kj49 t102 t104 x6_2 x7_2 x9_4 false a0_0 l0_1 l0_2 ((rd_T47 l0_2 (rd t104 x7_2)).kind) ((rd_T47 l0_2 (rd t104 x7_2)).atom.pred) ((rd_T47 l0_2 (rd t104 x7_2)).atom.args) ((rd_T47 l0_2 (rd t104 x7_2)).op) ((rd_T47 l0_2 (rd t104 x7_2)).l.isVar) ((rd_T47 l0_2 (rd t104 x7_2)).l.name) ((rd_T47 l0_2 (rd t104 x7_2)).l.val.isSym) ((rd_T47 l0_2 (rd t104 x7_2)).l.val.sym) ((rd_T47 l0_2 (rd t104 x7_2)).l.val.n) ((rd_T47 l0_2 (rd t104 x7_2)).r.isVar) ((rd_T47 l0_2 (rd t104 x7_2)).r.name) ((rd_T47 l0_2 (rd t104 x7_2)).r.val.isSym) ((rd_T47 l0_2 (rd t104 x7_2)).r.val.sym) ((rd_T47 l0_2 (rd t104 x7_2)).r.val.n)) else ((lambrequinref13_Terms.f ((rd_T47 l0_2 (rd t104 x9_4)).kind) ((rd_T47 l0_2 (rd t104 x9_4)).atom.pred) ((rd_T47 l0_2 (rd t104 x9_4)).atom.args) ((rd_T47 l0_2 (rd t104 x9_4)).op) ((rd_T47 l0_2 (rd t104 x9_4)).l.isVar) ((rd_T47 l0_2 (rd t104 x9_4)).l.name) ((rd_T47 l0_2 (rd t104 x9_4)).l.val.isSym) ((rd_T47 l0_2 (rd t104 x9_4)).l.val.sym) ((rd_T47 l0_2 (rd t104 x9_4)).l.val.n) ((rd_T47 l0_2 (rd t104 x9_4)).r.isVar) ((rd_T47 l0_2 (rd t104 x9_4)).r.name) ((rd_T47 l0_2 (rd t104 x9_4)).r.val.isSym) ((rd_T47 l0_2 (rd t104 x9_4)).r.val.sym) ((rd_T47 l0_2 (rd t104 x9_4)).r.val.n)).bind fun t124 => ((lambrequinref13_Known.f kj49 t124 x6_2).bind fun t127 => (lambrequinlaw13_PlanEarly.j5 kj49 t102 t104 x6_2 x7_2 x9_4 t127 a0_0 l0_1 l0_2 ((rd_T47 l0_2 (rd t104 x7_2)).kind) ((rd_T47 l0_2 (rd t104 x7_2)).atom.pred) ((rd_T47 l0_2 (rd t104 x7_2)).atom.args) ((rd_T47 l0_2 (rd t104 x7_2)).op) ((rd_T47 l0_2 (rd t104 x7_2)).l.isVar) ((rd_T47 l0_2 (rd t104 x7_2)).l.name) ((rd_T47 l0_2 (rd t104 x7_2)).l.val.isSym) ((rd_T47 l0_2 (rd t104 x7_2)).l.val.sym) ((rd_T47 l0_2 (rd t104 x7_2)).l.val.n) ((rd_T47 l0_2 (rd t104 x7_2)).r.isVar) ((rd_T47 l0_2 (rd t104 x7_2)).r.name) ((rd_T47 l0_2 (rd t104 x7_2)).r.val.isSym) ((rd_T47 l0_2 (rd t104 x7_2)).r.val.sym) ((rd_T47 l0_2 (rd t104 x7_2)).r.val.n))))) else (none)) else (none)) else (none)) else (none)) = some r := by rw [if_neg (show ¬ (false = true) by decide)] at H; exact H
                      clear H
                      have H := H1
                      clear H1
                      by_cases c56 : 0 ≤ x9_4
                      ·rw [if_pos c56] at H
                       have c56b0 : decide (0 ≤ x9_4) = true := decide_eq_true c56
                       clear c56
                       by_cases c57 : x9_4 < (t104.length : Int)
                       ·rw [if_pos c57] at H
                        have c57b0 : decide (x9_4 < (t104.length : Int)) = true := decide_eq_true c57
                        clear c57
                        by_cases c58 : 0 ≤ (rd t104 x9_4)
                        ·rw [if_pos c58] at H
                         have c58b0 : decide (0 ≤ (rd t104 x9_4)) = true := decide_eq_true c58
                         clear c58
                         by_cases c59 : (rd t104 x9_4) < (l0_2.length : Int)
                         ·rw [if_pos c59] at H
                          have c59b0 : decide ((rd t104 x9_4) < (l0_2.length : Int)) = true := decide_eq_true c59
                          clear c59
                          have HC60 := Aside0.mk H
                          clear H
                          try go_wp2
                          have n0_ := Aside0.mk (Kd.R_drew HO_4.out)
                          have n1_ := Aside0.mk (Kd.R_drew HO_6.out)
                          have n2_ := Aside0.mk (blk_drew BK101.out)
                          have n3_ := Aside0.mk (blk_drew BK112.out)
                          have n4_ := Aside0.mk (below_drew1 HB.out)
                          clear HO_4
                          clear HO_6
                          clear BK101
                          clear BK112
                          clear HB
                          have HO_4 := n0_
                          have HO_6 := n1_
                          have BK101 := n2_
                          have BK112 := n3_
                          have HB := n4_
                          clear n0_ n1_ n2_ n3_ n4_
                          have p121 : 0 ≤ (x9_4 : Int) := of_decide_eq_true (by first | (with_reducible assumption) | assumption)
                          have q121 : x9_4 < (t104.length : Int) := of_decide_eq_true (by first | (with_reducible assumption) | assumption)
                          obtain ⟨ad121, e121, hx121_0⟩ := Kd.at_int (Kd.R_reads' HO_4.out).2.2 x9_4 p121 q121
                          obtain rfl : ad110 = ad121 := (by injection e121)
                          replace p121 := eq_true p121
                          replace q121 := eq_true q121
                          have p122 : 0 ≤ ((rd t104 x9_4) : Int) := of_decide_eq_true (by first | (with_reducible assumption) | assumption)
                          have q122 : (rd t104 x9_4) < (l0_2.length : Int) := of_decide_eq_true (by first | (with_reducible assumption) | assumption)
                          obtain ⟨ad122, A122_2, c122_2, e122, hx122_0, hx122_1, hx122_2, hx122_3, hx122_4, hx122_5, hx122_6, hx122_7, hx122_8, hx122_9, hx122_10, hx122_11, hx122_12, hx122_13, hl122_2, hi122_2⟩ := at_T47 HR0_2.out (rd t104 x9_4) p122 q122
                          have hw122_13 := hx122_13
                          have hw122_12 := hx122_12
                          have hw122_11 := hx122_11
                          have hw122_10 := hx122_10
                          have hw122_9 := hx122_9
                          have hw122_8 := hx122_8
                          have hw122_7 := hx122_7
                          have hw122_6 := hx122_6
                          have hw122_5 := hx122_5
                          have hw122_4 := hx122_4
                          have hw122_3 := hx122_3
                          have hw122_2 := hx122_2
                          have hw122_1 := hx122_1
                          have hw122_0 := hx122_0
                          obtain rfl : ad111 = ad122 := (by injection e122)
                          replace hx122_0 := (HB.out.cell (blt_ hx122_0)).trans hx122_0
                          replace hx122_1 := (HB.out.cell (blt_ hx122_1)).trans hx122_1
                          replace hx122_2 := (HB.out.cell (blt_ hx122_2)).trans hx122_2
                          replace hx122_3 := (HB.out.cell (blt_ hx122_3)).trans hx122_3
                          replace hx122_4 := (HB.out.cell (blt_ hx122_4)).trans hx122_4
                          replace hx122_5 := (HB.out.cell (blt_ hx122_5)).trans hx122_5
                          replace hx122_6 := (HB.out.cell (blt_ hx122_6)).trans hx122_6
                          replace hx122_7 := (HB.out.cell (blt_ hx122_7)).trans hx122_7
                          replace hx122_8 := (HB.out.cell (blt_ hx122_8)).trans hx122_8
                          replace hx122_9 := (HB.out.cell (blt_ hx122_9)).trans hx122_9
                          replace hx122_10 := (HB.out.cell (blt_ hx122_10)).trans hx122_10
                          replace hx122_11 := (HB.out.cell (blt_ hx122_11)).trans hx122_11
                          replace hx122_12 := (HB.out.cell (blt_ hx122_12)).trans hx122_12
                          replace hx122_13 := (HB.out.cell (blt_ hx122_13)).trans hx122_13
                          have HR122_2 := Aside0.mk hi122_2
                          have HC122_2 := Aside0.mk hl122_2
                          clear hi122_2 hl122_2
                          replace p122 := eq_true p122
                          replace q122 := eq_true q122
                          refine start_ (n := 10) (S := fun w' => w'.cell? ⟨gb101, 0, none⟩ = some (.string a0_0) ∧ w'.cell? ⟨gb101, 1, none⟩ = some (.slice A0_1 l0_1.length c0_1) ∧ w'.cell? ⟨gb101, 2, none⟩ = some (.slice (some ad111) l0_2.length c0_2) ∧ w'.cell? (ad110.add (x9_4).toNat) = some (.int .i64 (rd t104 x9_4)) ∧ w'.cell? (ad111.add (((rd t104 x9_4)).toNat * 14)) = some (.int .i64 ((rd_T47 l0_2 (rd t104 x9_4)).kind)) ∧ w'.cell? ⟨(ad111.add (((rd t104 x9_4)).toNat * 14)).block, (ad111.add (((rd t104 x9_4)).toNat * 14)).off + 1, none⟩ = some (.string ((rd_T47 l0_2 (rd t104 x9_4)).atom.pred)) ∧ w'.cell? ⟨(ad111.add (((rd t104 x9_4)).toNat * 14)).block, (ad111.add (((rd t104 x9_4)).toNat * 14)).off + 2, none⟩ = some (.slice A122_2 ((rd_T47 l0_2 (rd t104 x9_4)).atom.args).length c122_2) ∧ w'.cell? ⟨(ad111.add (((rd t104 x9_4)).toNat * 14)).block, (ad111.add (((rd t104 x9_4)).toNat * 14)).off + 3, none⟩ = some (.string ((rd_T47 l0_2 (rd t104 x9_4)).op)) ∧ w'.cell? ⟨(ad111.add (((rd t104 x9_4)).toNat * 14)).block, (ad111.add (((rd t104 x9_4)).toNat * 14)).off + 4, none⟩ = some (.bool ((rd_T47 l0_2 (rd t104 x9_4)).l.isVar)) ∧ w'.cell? ⟨(ad111.add (((rd t104 x9_4)).toNat * 14)).block, (ad111.add (((rd t104 x9_4)).toNat * 14)).off + 5, none⟩ = some (.string ((rd_T47 l0_2 (rd t104 x9_4)).l.name)) ∧ w'.cell? ⟨(ad111.add (((rd t104 x9_4)).toNat * 14)).block, (ad111.add (((rd t104 x9_4)).toNat * 14)).off + 6, none⟩ = some (.bool ((rd_T47 l0_2 (rd t104 x9_4)).l.val.isSym)) ∧ w'.cell? ⟨(ad111.add (((rd t104 x9_4)).toNat * 14)).block, (ad111.add (((rd t104 x9_4)).toNat * 14)).off + 7, none⟩ = some (.string ((rd_T47 l0_2 (rd t104 x9_4)).l.val.sym)) ∧ w'.cell? ⟨(ad111.add (((rd t104 x9_4)).toNat * 14)).block, (ad111.add (((rd t104 x9_4)).toNat * 14)).off + 8, none⟩ = some (.int .i64 ((rd_T47 l0_2 (rd t104 x9_4)).l.val.n)) ∧ w'.cell? ⟨(ad111.add (((rd t104 x9_4)).toNat * 14)).block, (ad111.add (((rd t104 x9_4)).toNat * 14)).off + 9, none⟩ = some (.bool ((rd_T47 l0_2 (rd t104 x9_4)).r.isVar)) ∧ w'.cell? ⟨(ad111.add (((rd t104 x9_4)).toNat * 14)).block, (ad111.add (((rd t104 x9_4)).toNat * 14)).off + 10, none⟩ = some (.string ((rd_T47 l0_2 (rd t104 x9_4)).r.name)) ∧ w'.cell? ⟨(ad111.add (((rd t104 x9_4)).toNat * 14)).block, (ad111.add (((rd t104 x9_4)).toNat * 14)).off + 11, none⟩ = some (.bool ((rd_T47 l0_2 (rd t104 x9_4)).r.val.isSym)) ∧ w'.cell? ⟨(ad111.add (((rd t104 x9_4)).toNat * 14)).block, (ad111.add (((rd t104 x9_4)).toNat * 14)).off + 12, none⟩ = some (.string ((rd_T47 l0_2 (rd t104 x9_4)).r.val.sym)) ∧ w'.cell? ⟨(ad111.add (((rd t104 x9_4)).toNat * 14)).block, (ad111.add (((rd t104 x9_4)).toNat * 14)).off + 13, none⟩ = some (.int .i64 ((rd_T47 l0_2 (rd t104 x9_4)).r.val.n))) (ds := []) #[false, false, false, false, false, false, false, false, false, false] (by kernel_rfl) rfl rfl ⟨(blk_cell BK101.out 0).trans rfl, (blk_cell BK101.out 1).trans rfl, (blk_cell BK101.out 2).trans rfl, hx121_0, ((HB.out.cell (blt_ hw122_0)).trans hw122_0), ((HB.out.cell (blt_ hw122_1)).trans hw122_1), ((HB.out.cell (blt_ hw122_2)).trans hw122_2), ((HB.out.cell (blt_ hw122_3)).trans hw122_3), ((HB.out.cell (blt_ hw122_4)).trans hw122_4), ((HB.out.cell (blt_ hw122_5)).trans hw122_5), ((HB.out.cell (blt_ hw122_6)).trans hw122_6), ((HB.out.cell (blt_ hw122_7)).trans hw122_7), ((HB.out.cell (blt_ hw122_8)).trans hw122_8), ((HB.out.cell (blt_ hw122_9)).trans hw122_9), ((HB.out.cell (blt_ hw122_10)).trans hw122_10), ((HB.out.cell (blt_ hw122_11)).trans hw122_11), ((HB.out.cell (blt_ hw122_12)).trans hw122_12), ((HB.out.cell (blt_ hw122_13)).trans hw122_13)⟩ (fun hHeld => ?_); refine with_tabW lambrequinlaw13_PlanEarly.tab20 lambrequinlaw13_PlanEarly.bits20 (fun HT_ HW_ => ?_)
                          generalize wc.drew = w61 at HO_4 HO_6 BK101 BK112 HB HR122_2 hx121_0 hx122_0 hx122_1 hx122_10 hx122_11 hx122_12 hx122_13 hx122_2 hx122_3 hx122_4 hx122_5 hx122_6 hx122_7 hx122_8 hx122_9 hHeld ⊢
                          refine pure_ (i := 0) (N := some 91) (v := ?_) (a' := ?_) #[true, false, false, false, false, false, false, false, false, false] rfl rfl (any_of HT_.out (by kernel_rfl)) (fun _ _ _ h => h) (Or.inl ⟨by rfl, ?_⟩) ?_ ?_
                          rotate_left
                          ·intro w'
                           go_simp
                           with_reducible rfl
                          rotate_left
                          ·simp only [Act.put, List.setIfInBounds_toArray, List.set_cons_zero, List.set_cons_succ, i64_w, i32_w]
                           rfl
                          refine pure_ (i := 2) (N := some 93) (v := ?_) (a' := ?_) #[true, false, true, false, false, false, false, false, false, false] rfl rfl (any_of HT_.out (by kernel_rfl)) (fun _ _ _ h => h) (Or.inl ⟨by rfl, ?_⟩) ?_ ?_
                          rotate_left
                          ·intro w'
                           go_simp
                           with_reducible rfl
                          rotate_left
                          ·simp only [Act.put, List.setIfInBounds_toArray, List.set_cons_zero, List.set_cons_succ, i64_w, i32_w]
                           rfl
                          refine pure_ (i := 3) (N := some 94) (v := ?_) (a' := ?_) #[true, false, true, true, false, false, false, false, false, false] rfl rfl (any_of HT_.out (by kernel_rfl)) (fun _ _ _ h => h) (Or.inl ⟨by rfl, ?_⟩) ?_ ?_
                          rotate_left
                          ·intro w'
                           go_simp
                           with_reducible rfl
                          rotate_left
                          ·simp only [Act.put, List.setIfInBounds_toArray, List.set_cons_zero, List.set_cons_succ, i64_w, i32_w]
                           rfl
                          refine pure_ (i := 4) (N := some 95) (v := ?_) (a' := ?_) #[true, false, true, true, true, false, false, false, false, false] rfl rfl (any_of HT_.out (by kernel_rfl)) (fun _ _ _ h => h) (Or.inl ⟨by rfl, ?_⟩) ?_ ?_
                          rotate_left
                          ·intro w'
                           go_simp
                           with_reducible rfl
                          rotate_left
                          ·simp only [Act.put, List.setIfInBounds_toArray, List.set_cons_zero, List.set_cons_succ, i64_w, i32_w]
                           rfl
                          refine take_ (i := 1) (N := some 92) (v := ?_) (a' := ?_) #[true, true, true, true, true, false, false, false, false, false] rfl rfl (take_ofW HT_.out HW_.out (by kernel_rfl)) (fun _ _ _ h => h) (Or.inl ⟨by rfl, ?_⟩) hHeld ?_ ?_
                          rotate_left
                          ·rintro w' ⟨s0, s1, s2, s3, s4, s5, s6, s7, s8, s9, s10, s11, s12, s13, s14, s15, s16, s17⟩
                           go_simp
                           with_reducible rfl
                          rotate_left
                          ·simp only [Act.put, List.setIfInBounds_toArray, List.set_cons_zero, List.set_cons_succ, i64_w, i32_w]
                           rfl
                          refine take_ (i := 5) (N := some 96) (v := ?_) (a' := ?_) #[true, true, true, true, true, true, false, false, false, false] rfl rfl (take_ofW HT_.out HW_.out (by kernel_rfl)) (fun _ _ _ h => h) (Or.inl ⟨by rfl, ?_⟩) hHeld ?_ ?_
                          rotate_left
                          ·rintro w' ⟨s0, s1, s2, s3, s4, s5, s6, s7, s8, s9, s10, s11, s12, s13, s14, s15, s16, s17⟩
                           go_simp
                           with_reducible rfl
                          rotate_left
                          ·simp only [Act.put, List.setIfInBounds_toArray, List.set_cons_zero, List.set_cons_succ, i64_w, i32_w]
                           rfl
                          refine pure_ (i := 6) (N := some 97) (v := ?_) (a' := ?_) #[true, true, true, true, true, true, true, false, false, false] rfl rfl (any_of HT_.out (by kernel_rfl)) (fun _ _ _ h => h) (Or.inl ⟨by rfl, ?_⟩) ?_ ?_
                          rotate_left
                          ·intro w'
                           go_simp
                           with_reducible rfl
                          rotate_left
                          ·simp only [Act.put, List.setIfInBounds_toArray, List.set_cons_zero, List.set_cons_succ, i64_w, i32_w]
                           rfl
                          refine take_ (i := 7) (N := some 98) (v := ?_) (a' := ?_) #[true, true, true, true, true, true, true, true, false, false] rfl rfl (take_ofW HT_.out HW_.out (by kernel_rfl)) (fun _ _ _ h => h) (Or.inl ⟨by rfl, ?_⟩) hHeld ?_ ?_
                          rotate_left
                          ·rintro w' ⟨s0, s1, s2, s3, s4, s5, s6, s7, s8, s9, s10, s11, s12, s13, s14, s15, s16, s17⟩
                           go_simp
                           with_reducible rfl
                          rotate_left
                          ·simp only [Act.put, List.setIfInBounds_toArray, List.set_cons_zero, List.set_cons_succ, i64_w, i32_w]
                           rfl
                          refine one_ (i := 8) (N := some 10) #[true, true, true, true, true, true, true, true, true, false] rfl rfl (one_of HT_.out (by kernel_rfl)) (by decide) (fun K hK => ?_)
                          refine box_step ?hg (N := 10) ?hd (cs := #[.int .i64 0, .string (⟨#[]⟩ : ByteArray), .slice none 0 0, .string (⟨#[]⟩ : ByteArray), .bool false, .string (⟨#[]⟩ : ByteArray), .bool false, .string (⟨#[]⟩ : ByteArray), .int .i64 0, .bool false, .string (⟨#[]⟩ : ByteArray), .bool false, .string (⟨#[]⟩ : ByteArray), .int .i64 0]) (t := 47) ?hr ?_; (case hd => rfl); (case hg => rfl); (case hr => first | (go_simp; done) | (go_simp; rfl))
                          intro gb123 hg w62 hbox hb
                          have HS3_ := (hb.cell (blt_ (hHeld.2.2.2.1))).trans (hHeld.2.2.2.1)
                          have n0_ := Aside0.mk (Kd.R_below (by (with_reducible repeat (first | apply Kd.R_alloc | apply Kd.R_drewN | apply Kd.R_drew)); exact HO_4.out) hb)
                          have n1_ := Aside0.mk (Kd.R_below (by (with_reducible repeat (first | apply Kd.R_alloc | apply Kd.R_drewN | apply Kd.R_drew)); exact HO_6.out) hb)
                          have n2_ := Aside0.mk (blk_below (g := gb101) (o := .cells #[.string a0_0, .slice A0_1 l0_1.length c0_1, .slice (some ad111) l0_2.length c0_2] 27 (0, 0)) (by (with_reducible repeat (first | refine blk_drewN ?_ _ | refine blk_drew ?_ | refine blk_alloc ?_ _)); exact BK101.out) hb)
                          have n3_ := Aside0.mk (blk_below (g := gb112) (o := .cells #[.int .i64 ((rd_T47 l0_2 (rd t104 x7_2)).kind), .string ((rd_T47 l0_2 (rd t104 x7_2)).atom.pred), .slice A111_2 ((rd_T47 l0_2 (rd t104 x7_2)).atom.args).length c111_2, .string ((rd_T47 l0_2 (rd t104 x7_2)).op), .bool ((rd_T47 l0_2 (rd t104 x7_2)).l.isVar), .string ((rd_T47 l0_2 (rd t104 x7_2)).l.name), .bool ((rd_T47 l0_2 (rd t104 x7_2)).l.val.isSym), .string ((rd_T47 l0_2 (rd t104 x7_2)).l.val.sym), .int .i64 ((rd_T47 l0_2 (rd t104 x7_2)).l.val.n), .bool ((rd_T47 l0_2 (rd t104 x7_2)).r.isVar), .string ((rd_T47 l0_2 (rd t104 x7_2)).r.name), .bool ((rd_T47 l0_2 (rd t104 x7_2)).r.val.isSym), .string ((rd_T47 l0_2 (rd t104 x7_2)).r.val.sym), .int .i64 ((rd_T47 l0_2 (rd t104 x7_2)).r.val.n)] 47 (0, 0)) (by (with_reducible repeat (first | refine blk_drewN ?_ _ | refine blk_drew ?_ | refine blk_alloc ?_ _)); exact BK112.out) hb)
                          have n4_ := Aside0.mk (below_step (by repeat (first | (with_reducible first | exact HB.out | apply below_alloc | apply pw_below_drewN | apply below_drew1 | refine below_set ?_ GE101.out | refine below_set ?_ GE112.out) | exact HB.out)) hb)
                          have n5_ := Aside0.mk (hbox)
                          have n6_ := Aside0.mk ((by rw [hg]; exact (below_size (by repeat (first | (with_reducible first | exact HB.out | apply below_alloc | apply pw_below_drewN | apply below_drew1 | refine below_set ?_ GE101.out | refine below_set ?_ GE112.out) | exact HB.out))) : w.heap.size ≤ gb123))
                          have n7_ := Aside0.mk ((by rw [hg]; exact (below_size (by repeat (first | (with_reducible first | exact HB.out | apply below_alloc | apply pw_below_drewN | apply below_drew1 | refine below_set ?_ GE101.out | refine below_set ?_ GE112.out) | exact HB.out))) : w.heap.size ≤ gb123))
                          have n8_ := Aside0.mk ((by rw [hg]; exact Nat.ne_of_lt (blk_lt (g := gb101) (o := .cells #[.string a0_0, .slice A0_1 l0_1.length c0_1, .slice (some ad111) l0_2.length c0_2] 27 (0, 0)) (by (with_reducible repeat (first | refine blk_drewN ?_ _ | refine blk_drew ?_ | refine blk_alloc ?_ _)); exact BK101.out)) : gb101 ≠ gb123))
                          have n9_ := Aside0.mk ((by rw [hg]; exact Nat.ne_of_gt (blk_lt (g := gb101) (o := .cells #[.string a0_0, .slice A0_1 l0_1.length c0_1, .slice (some ad111) l0_2.length c0_2] 27 (0, 0)) (by (with_reducible repeat (first | refine blk_drewN ?_ _ | refine blk_drew ?_ | refine blk_alloc ?_ _)); exact BK101.out)) : gb123 ≠ gb101))
                          have n10_ := Aside0.mk ((by rw [hg]; exact Nat.ne_of_lt (blk_lt (g := gb112) (o := .cells #[.int .i64 ((rd_T47 l0_2 (rd t104 x7_2)).kind), .string ((rd_T47 l0_2 (rd t104 x7_2)).atom.pred), .slice A111_2 ((rd_T47 l0_2 (rd t104 x7_2)).atom.args).length c111_2, .string ((rd_T47 l0_2 (rd t104 x7_2)).op), .bool ((rd_T47 l0_2 (rd t104 x7_2)).l.isVar), .string ((rd_T47 l0_2 (rd t104 x7_2)).l.name), .bool ((rd_T47 l0_2 (rd t104 x7_2)).l.val.isSym), .string ((rd_T47 l0_2 (rd t104 x7_2)).l.val.sym), .int .i64 ((rd_T47 l0_2 (rd t104 x7_2)).l.val.n), .bool ((rd_T47 l0_2 (rd t104 x7_2)).r.isVar), .string ((rd_T47 l0_2 (rd t104 x7_2)).r.name), .bool ((rd_T47 l0_2 (rd t104 x7_2)).r.val.isSym), .string ((rd_T47 l0_2 (rd t104 x7_2)).r.val.sym), .int .i64 ((rd_T47 l0_2 (rd t104 x7_2)).r.val.n)] 47 (0, 0)) (by (with_reducible repeat (first | refine blk_drewN ?_ _ | refine blk_drew ?_ | refine blk_alloc ?_ _)); exact BK112.out)) : gb112 ≠ gb123))
                          have n11_ := Aside0.mk ((by rw [hg]; exact Nat.ne_of_gt (blk_lt (g := gb112) (o := .cells #[.int .i64 ((rd_T47 l0_2 (rd t104 x7_2)).kind), .string ((rd_T47 l0_2 (rd t104 x7_2)).atom.pred), .slice A111_2 ((rd_T47 l0_2 (rd t104 x7_2)).atom.args).length c111_2, .string ((rd_T47 l0_2 (rd t104 x7_2)).op), .bool ((rd_T47 l0_2 (rd t104 x7_2)).l.isVar), .string ((rd_T47 l0_2 (rd t104 x7_2)).l.name), .bool ((rd_T47 l0_2 (rd t104 x7_2)).l.val.isSym), .string ((rd_T47 l0_2 (rd t104 x7_2)).l.val.sym), .int .i64 ((rd_T47 l0_2 (rd t104 x7_2)).l.val.n), .bool ((rd_T47 l0_2 (rd t104 x7_2)).r.isVar), .string ((rd_T47 l0_2 (rd t104 x7_2)).r.name), .bool ((rd_T47 l0_2 (rd t104 x7_2)).r.val.isSym), .string ((rd_T47 l0_2 (rd t104 x7_2)).r.val.sym), .int .i64 ((rd_T47 l0_2 (rd t104 x7_2)).r.val.n)] 47 (0, 0)) (by (with_reducible repeat (first | refine blk_drewN ?_ _ | refine blk_drew ?_ | refine blk_alloc ?_ _)); exact BK112.out)) : gb123 ≠ gb112))
                          clear HO_4
                          clear HO_6
                          clear BK101
                          clear BK112
                          clear HB
                          have HO_4 := n0_
                          have HO_6 := n1_
                          have BK101 := n2_
                          have BK112 := n3_
                          have HB := n4_
                          have BK123 := n5_
                          have GW123 := n6_
                          have GE123 := n7_
                          have NB101_123 := n8_
                          have NB123_101 := n9_
                          have NB112_123 := n10_
                          have NB123_112 := n11_
                          clear n0_ n1_ n2_ n3_ n4_ n5_ n6_ n7_ n8_ n9_ n10_ n11_
                          clear hb hbox hg
                          refine hK.out _ _ ⟨(blk_cell BK101.out 0).trans rfl, (blk_cell BK101.out 1).trans rfl, (blk_cell BK101.out 2).trans rfl, HS3_, ((HB.out.cell (blt_ hw122_0)).trans hw122_0), ((HB.out.cell (blt_ hw122_1)).trans hw122_1), ((HB.out.cell (blt_ hw122_2)).trans hw122_2), ((HB.out.cell (blt_ hw122_3)).trans hw122_3), ((HB.out.cell (blt_ hw122_4)).trans hw122_4), ((HB.out.cell (blt_ hw122_5)).trans hw122_5), ((HB.out.cell (blt_ hw122_6)).trans hw122_6), ((HB.out.cell (blt_ hw122_7)).trans hw122_7), ((HB.out.cell (blt_ hw122_8)).trans hw122_8), ((HB.out.cell (blt_ hw122_9)).trans hw122_9), ((HB.out.cell (blt_ hw122_10)).trans hw122_10), ((HB.out.cell (blt_ hw122_11)).trans hw122_11), ((HB.out.cell (blt_ hw122_12)).trans hw122_12), ((HB.out.cell (blt_ hw122_13)).trans hw122_13)⟩ (fun hHeld => ?_)
                          clear hK K
                          refine norm_ (a' := ?_) ?_ ?_
                          rotate_left
                          ·show Act.put _ (some 10) _ = _
                           simp only [Act.put, List.setIfInBounds_toArray, List.set_cons_zero, List.set_cons_succ, i64_w, i32_w]
                           rfl
                          refine one_ (i := 9) (N := none) #[true, true, true, true, true, true, true, true, true, true] rfl rfl (one_of HT_.out (by kernel_rfl)) (by decide) (fun K hK => ?_)
                          have hs63 : w62.cell? ⟨gb123, 0, none⟩ = some (.int .i64 0) := (blk_cell BK123.out 0).trans rfl
                          have hfs63 := blk_frozen BK123.out 0
                          have hns63_0 := NB101_123.out
                          have hns63_1 := NB112_123.out
                          have hms63_0 := NB123_101.out
                          have hms63_1 := NB123_112.out
                          have hs64 : w62.cell? ⟨gb123, 1, none⟩ = some (.string (⟨#[]⟩ : ByteArray)) := (blk_cell BK123.out 1).trans rfl
                          have hfs64 := blk_frozen BK123.out 1
                          have hns64_0 := NB101_123.out
                          have hns64_1 := NB112_123.out
                          have hms64_0 := NB123_101.out
                          have hms64_1 := NB123_112.out
                          have hs65 : w62.cell? ⟨gb123, 2, none⟩ = some (.slice none 0 0) := (blk_cell BK123.out 2).trans rfl
                          have hfs65 := blk_frozen BK123.out 2
                          have hns65_0 := NB101_123.out
                          have hns65_1 := NB112_123.out
                          have hms65_0 := NB123_101.out
                          have hms65_1 := NB123_112.out
                          have hs66 : w62.cell? ⟨gb123, 3, none⟩ = some (.string (⟨#[]⟩ : ByteArray)) := (blk_cell BK123.out 3).trans rfl
                          have hfs66 := blk_frozen BK123.out 3
                          have hns66_0 := NB101_123.out
                          have hns66_1 := NB112_123.out
                          have hms66_0 := NB123_101.out
                          have hms66_1 := NB123_112.out
                          have hs67 : w62.cell? ⟨gb123, 4, none⟩ = some (.bool false) := (blk_cell BK123.out 4).trans rfl
                          have hfs67 := blk_frozen BK123.out 4
                          have hns67_0 := NB101_123.out
                          have hns67_1 := NB112_123.out
                          have hms67_0 := NB123_101.out
                          have hms67_1 := NB123_112.out
                          have hs68 : w62.cell? ⟨gb123, 5, none⟩ = some (.string (⟨#[]⟩ : ByteArray)) := (blk_cell BK123.out 5).trans rfl
                          have hfs68 := blk_frozen BK123.out 5
                          have hns68_0 := NB101_123.out
                          have hns68_1 := NB112_123.out
                          have hms68_0 := NB123_101.out
                          have hms68_1 := NB123_112.out
                          have hs69 : w62.cell? ⟨gb123, 6, none⟩ = some (.bool false) := (blk_cell BK123.out 6).trans rfl
                          have hfs69 := blk_frozen BK123.out 6
                          have hns69_0 := NB101_123.out
                          have hns69_1 := NB112_123.out
                          have hms69_0 := NB123_101.out
                          have hms69_1 := NB123_112.out
                          have hs70 : w62.cell? ⟨gb123, 7, none⟩ = some (.string (⟨#[]⟩ : ByteArray)) := (blk_cell BK123.out 7).trans rfl
                          have hfs70 := blk_frozen BK123.out 7
                          have hns70_0 := NB101_123.out
                          have hns70_1 := NB112_123.out
                          have hms70_0 := NB123_101.out
                          have hms70_1 := NB123_112.out
                          have hs71 : w62.cell? ⟨gb123, 8, none⟩ = some (.int .i64 0) := (blk_cell BK123.out 8).trans rfl
                          have hfs71 := blk_frozen BK123.out 8
                          have hns71_0 := NB101_123.out
                          have hns71_1 := NB112_123.out
                          have hms71_0 := NB123_101.out
                          have hms71_1 := NB123_112.out
                          have hs72 : w62.cell? ⟨gb123, 9, none⟩ = some (.bool false) := (blk_cell BK123.out 9).trans rfl
                          have hfs72 := blk_frozen BK123.out 9
                          have hns72_0 := NB101_123.out
                          have hns72_1 := NB112_123.out
                          have hms72_0 := NB123_101.out
                          have hms72_1 := NB123_112.out
                          have hs73 : w62.cell? ⟨gb123, 10, none⟩ = some (.string (⟨#[]⟩ : ByteArray)) := (blk_cell BK123.out 10).trans rfl
                          have hfs73 := blk_frozen BK123.out 10
                          have hns73_0 := NB101_123.out
                          have hns73_1 := NB112_123.out
                          have hms73_0 := NB123_101.out
                          have hms73_1 := NB123_112.out
                          have hs74 : w62.cell? ⟨gb123, 11, none⟩ = some (.bool false) := (blk_cell BK123.out 11).trans rfl
                          have hfs74 := blk_frozen BK123.out 11
                          have hns74_0 := NB101_123.out
                          have hns74_1 := NB112_123.out
                          have hms74_0 := NB123_101.out
                          have hms74_1 := NB123_112.out
                          have hs75 : w62.cell? ⟨gb123, 12, none⟩ = some (.string (⟨#[]⟩ : ByteArray)) := (blk_cell BK123.out 12).trans rfl
                          have hfs75 := blk_frozen BK123.out 12
                          have hns75_0 := NB101_123.out
                          have hns75_1 := NB112_123.out
                          have hms75_0 := NB123_101.out
                          have hms75_1 := NB123_112.out
                          have hs76 : w62.cell? ⟨gb123, 13, none⟩ = some (.int .i64 0) := (blk_cell BK123.out 13).trans rfl
                          have hfs76 := blk_frozen BK123.out 13
                          have hns76_0 := NB101_123.out
                          have hns76_1 := NB112_123.out
                          have hms76_0 := NB123_101.out
                          have hms76_1 := NB123_112.out
                          refine skip_ (w1 := ?_) (by rfl) rfl ?_ ?_
                          rotate_left
                          ·go_simp
                           rfl
                          refine hK.out _ _ ⟨(by repeat (first | (with_reducible exact (hHeld.1)) | refine (cell_far (p := ⟨gb123, _, none⟩) NB101_123.out _).trans ?_ | exact (hHeld.1))), (by repeat (first | (with_reducible exact (hHeld.2.1)) | refine (cell_far (p := ⟨gb123, _, none⟩) NB101_123.out _).trans ?_ | exact (hHeld.2.1))), (by repeat (first | (with_reducible exact (hHeld.2.2.1)) | refine (cell_far (p := ⟨gb123, _, none⟩) NB101_123.out _).trans ?_ | exact (hHeld.2.2.1))), (by repeat (first | (with_reducible exact (hHeld.2.2.2.1)) | refine (cell_far (p := ⟨gb123, _, none⟩) (by first | exact Kd.own_blk (Kd.R_ne HO_4.out BK123.out (by decide)) | (rw [add_block]; exact Kd.own_blk (Kd.R_ne HO_4.out BK123.out (by decide))) | (show (Addr.add _ _).block ≠ _; rw [add_block]; exact Kd.own_blk (Kd.R_ne HO_4.out BK123.out (by decide))) | (dsimp only; exact Kd.own_blk (Kd.R_ne HO_4.out BK123.out (by decide)))) _).trans ?_ | exact (hHeld.2.2.2.1))), (by repeat (first | (with_reducible exact (hHeld.2.2.2.2.1)) | refine (cell_far (p := ⟨gb123, _, none⟩) (by first | exact Nat.ne_of_lt (Nat.lt_of_lt_of_le (by have := blt_ hw122_0; first | rwa [add_block] at this | exact this) GW123.out) | (rw [add_block]; exact Nat.ne_of_lt (Nat.lt_of_lt_of_le (by have := blt_ hw122_0; first | rwa [add_block] at this | exact this) GW123.out)) | (show (Addr.add _ _).block ≠ _; rw [add_block]; exact Nat.ne_of_lt (Nat.lt_of_lt_of_le (by have := blt_ hw122_0; first | rwa [add_block] at this | exact this) GW123.out)) | (dsimp only; exact Nat.ne_of_lt (Nat.lt_of_lt_of_le (by have := blt_ hw122_0; first | rwa [add_block] at this | exact this) GW123.out))) _).trans ?_ | exact (hHeld.2.2.2.2.1))), (by repeat (first | (with_reducible exact (hHeld.2.2.2.2.2.1)) | refine (cell_far (p := ⟨gb123, _, none⟩) (by first | exact Nat.ne_of_lt (Nat.lt_of_lt_of_le (by have := blt_ hw122_1; first | rwa [add_block] at this | exact this) GW123.out) | (rw [add_block]; exact Nat.ne_of_lt (Nat.lt_of_lt_of_le (by have := blt_ hw122_1; first | rwa [add_block] at this | exact this) GW123.out)) | (show (Addr.add _ _).block ≠ _; rw [add_block]; exact Nat.ne_of_lt (Nat.lt_of_lt_of_le (by have := blt_ hw122_1; first | rwa [add_block] at this | exact this) GW123.out)) | (dsimp only; exact Nat.ne_of_lt (Nat.lt_of_lt_of_le (by have := blt_ hw122_1; first | rwa [add_block] at this | exact this) GW123.out))) _).trans ?_ | exact (hHeld.2.2.2.2.2.1))), (by repeat (first | (with_reducible exact (hHeld.2.2.2.2.2.2.1)) | refine (cell_far (p := ⟨gb123, _, none⟩) (by first | exact Nat.ne_of_lt (Nat.lt_of_lt_of_le (by have := blt_ hw122_2; first | rwa [add_block] at this | exact this) GW123.out) | (rw [add_block]; exact Nat.ne_of_lt (Nat.lt_of_lt_of_le (by have := blt_ hw122_2; first | rwa [add_block] at this | exact this) GW123.out)) | (show (Addr.add _ _).block ≠ _; rw [add_block]; exact Nat.ne_of_lt (Nat.lt_of_lt_of_le (by have := blt_ hw122_2; first | rwa [add_block] at this | exact this) GW123.out)) | (dsimp only; exact Nat.ne_of_lt (Nat.lt_of_lt_of_le (by have := blt_ hw122_2; first | rwa [add_block] at this | exact this) GW123.out))) _).trans ?_ | exact (hHeld.2.2.2.2.2.2.1))), (by repeat (first | (with_reducible exact (hHeld.2.2.2.2.2.2.2.1)) | refine (cell_far (p := ⟨gb123, _, none⟩) (by first | exact Nat.ne_of_lt (Nat.lt_of_lt_of_le (by have := blt_ hw122_3; first | rwa [add_block] at this | exact this) GW123.out) | (rw [add_block]; exact Nat.ne_of_lt (Nat.lt_of_lt_of_le (by have := blt_ hw122_3; first | rwa [add_block] at this | exact this) GW123.out)) | (show (Addr.add _ _).block ≠ _; rw [add_block]; exact Nat.ne_of_lt (Nat.lt_of_lt_of_le (by have := blt_ hw122_3; first | rwa [add_block] at this | exact this) GW123.out)) | (dsimp only; exact Nat.ne_of_lt (Nat.lt_of_lt_of_le (by have := blt_ hw122_3; first | rwa [add_block] at this | exact this) GW123.out))) _).trans ?_ | exact (hHeld.2.2.2.2.2.2.2.1))), (by repeat (first | (with_reducible exact (hHeld.2.2.2.2.2.2.2.2.1)) | refine (cell_far (p := ⟨gb123, _, none⟩) (by first | exact Nat.ne_of_lt (Nat.lt_of_lt_of_le (by have := blt_ hw122_4; first | rwa [add_block] at this | exact this) GW123.out) | (rw [add_block]; exact Nat.ne_of_lt (Nat.lt_of_lt_of_le (by have := blt_ hw122_4; first | rwa [add_block] at this | exact this) GW123.out)) | (show (Addr.add _ _).block ≠ _; rw [add_block]; exact Nat.ne_of_lt (Nat.lt_of_lt_of_le (by have := blt_ hw122_4; first | rwa [add_block] at this | exact this) GW123.out)) | (dsimp only; exact Nat.ne_of_lt (Nat.lt_of_lt_of_le (by have := blt_ hw122_4; first | rwa [add_block] at this | exact this) GW123.out))) _).trans ?_ | exact (hHeld.2.2.2.2.2.2.2.2.1))), (by repeat (first | (with_reducible exact (hHeld.2.2.2.2.2.2.2.2.2.1)) | refine (cell_far (p := ⟨gb123, _, none⟩) (by first | exact Nat.ne_of_lt (Nat.lt_of_lt_of_le (by have := blt_ hw122_5; first | rwa [add_block] at this | exact this) GW123.out) | (rw [add_block]; exact Nat.ne_of_lt (Nat.lt_of_lt_of_le (by have := blt_ hw122_5; first | rwa [add_block] at this | exact this) GW123.out)) | (show (Addr.add _ _).block ≠ _; rw [add_block]; exact Nat.ne_of_lt (Nat.lt_of_lt_of_le (by have := blt_ hw122_5; first | rwa [add_block] at this | exact this) GW123.out)) | (dsimp only; exact Nat.ne_of_lt (Nat.lt_of_lt_of_le (by have := blt_ hw122_5; first | rwa [add_block] at this | exact this) GW123.out))) _).trans ?_ | exact (hHeld.2.2.2.2.2.2.2.2.2.1))), (by repeat (first | (with_reducible exact (hHeld.2.2.2.2.2.2.2.2.2.2.1)) | refine (cell_far (p := ⟨gb123, _, none⟩) (by first | exact Nat.ne_of_lt (Nat.lt_of_lt_of_le (by have := blt_ hw122_6; first | rwa [add_block] at this | exact this) GW123.out) | (rw [add_block]; exact Nat.ne_of_lt (Nat.lt_of_lt_of_le (by have := blt_ hw122_6; first | rwa [add_block] at this | exact this) GW123.out)) | (show (Addr.add _ _).block ≠ _; rw [add_block]; exact Nat.ne_of_lt (Nat.lt_of_lt_of_le (by have := blt_ hw122_6; first | rwa [add_block] at this | exact this) GW123.out)) | (dsimp only; exact Nat.ne_of_lt (Nat.lt_of_lt_of_le (by have := blt_ hw122_6; first | rwa [add_block] at this | exact this) GW123.out))) _).trans ?_ | exact (hHeld.2.2.2.2.2.2.2.2.2.2.1))), (by repeat (first | (with_reducible exact (hHeld.2.2.2.2.2.2.2.2.2.2.2.1)) | refine (cell_far (p := ⟨gb123, _, none⟩) (by first | exact Nat.ne_of_lt (Nat.lt_of_lt_of_le (by have := blt_ hw122_7; first | rwa [add_block] at this | exact this) GW123.out) | (rw [add_block]; exact Nat.ne_of_lt (Nat.lt_of_lt_of_le (by have := blt_ hw122_7; first | rwa [add_block] at this | exact this) GW123.out)) | (show (Addr.add _ _).block ≠ _; rw [add_block]; exact Nat.ne_of_lt (Nat.lt_of_lt_of_le (by have := blt_ hw122_7; first | rwa [add_block] at this | exact this) GW123.out)) | (dsimp only; exact Nat.ne_of_lt (Nat.lt_of_lt_of_le (by have := blt_ hw122_7; first | rwa [add_block] at this | exact this) GW123.out))) _).trans ?_ | exact (hHeld.2.2.2.2.2.2.2.2.2.2.2.1))), (by repeat (first | (with_reducible exact (hHeld.2.2.2.2.2.2.2.2.2.2.2.2.1)) | refine (cell_far (p := ⟨gb123, _, none⟩) (by first | exact Nat.ne_of_lt (Nat.lt_of_lt_of_le (by have := blt_ hw122_8; first | rwa [add_block] at this | exact this) GW123.out) | (rw [add_block]; exact Nat.ne_of_lt (Nat.lt_of_lt_of_le (by have := blt_ hw122_8; first | rwa [add_block] at this | exact this) GW123.out)) | (show (Addr.add _ _).block ≠ _; rw [add_block]; exact Nat.ne_of_lt (Nat.lt_of_lt_of_le (by have := blt_ hw122_8; first | rwa [add_block] at this | exact this) GW123.out)) | (dsimp only; exact Nat.ne_of_lt (Nat.lt_of_lt_of_le (by have := blt_ hw122_8; first | rwa [add_block] at this | exact this) GW123.out))) _).trans ?_ | exact (hHeld.2.2.2.2.2.2.2.2.2.2.2.2.1))), (by repeat (first | (with_reducible exact (hHeld.2.2.2.2.2.2.2.2.2.2.2.2.2.1)) | refine (cell_far (p := ⟨gb123, _, none⟩) (by first | exact Nat.ne_of_lt (Nat.lt_of_lt_of_le (by have := blt_ hw122_9; first | rwa [add_block] at this | exact this) GW123.out) | (rw [add_block]; exact Nat.ne_of_lt (Nat.lt_of_lt_of_le (by have := blt_ hw122_9; first | rwa [add_block] at this | exact this) GW123.out)) | (show (Addr.add _ _).block ≠ _; rw [add_block]; exact Nat.ne_of_lt (Nat.lt_of_lt_of_le (by have := blt_ hw122_9; first | rwa [add_block] at this | exact this) GW123.out)) | (dsimp only; exact Nat.ne_of_lt (Nat.lt_of_lt_of_le (by have := blt_ hw122_9; first | rwa [add_block] at this | exact this) GW123.out))) _).trans ?_ | exact (hHeld.2.2.2.2.2.2.2.2.2.2.2.2.2.1))), (by repeat (first | (with_reducible exact (hHeld.2.2.2.2.2.2.2.2.2.2.2.2.2.2.1)) | refine (cell_far (p := ⟨gb123, _, none⟩) (by first | exact Nat.ne_of_lt (Nat.lt_of_lt_of_le (by have := blt_ hw122_10; first | rwa [add_block] at this | exact this) GW123.out) | (rw [add_block]; exact Nat.ne_of_lt (Nat.lt_of_lt_of_le (by have := blt_ hw122_10; first | rwa [add_block] at this | exact this) GW123.out)) | (show (Addr.add _ _).block ≠ _; rw [add_block]; exact Nat.ne_of_lt (Nat.lt_of_lt_of_le (by have := blt_ hw122_10; first | rwa [add_block] at this | exact this) GW123.out)) | (dsimp only; exact Nat.ne_of_lt (Nat.lt_of_lt_of_le (by have := blt_ hw122_10; first | rwa [add_block] at this | exact this) GW123.out))) _).trans ?_ | exact (hHeld.2.2.2.2.2.2.2.2.2.2.2.2.2.2.1))), (by repeat (first | (with_reducible exact (hHeld.2.2.2.2.2.2.2.2.2.2.2.2.2.2.2.1)) | refine (cell_far (p := ⟨gb123, _, none⟩) (by first | exact Nat.ne_of_lt (Nat.lt_of_lt_of_le (by have := blt_ hw122_11; first | rwa [add_block] at this | exact this) GW123.out) | (rw [add_block]; exact Nat.ne_of_lt (Nat.lt_of_lt_of_le (by have := blt_ hw122_11; first | rwa [add_block] at this | exact this) GW123.out)) | (show (Addr.add _ _).block ≠ _; rw [add_block]; exact Nat.ne_of_lt (Nat.lt_of_lt_of_le (by have := blt_ hw122_11; first | rwa [add_block] at this | exact this) GW123.out)) | (dsimp only; exact Nat.ne_of_lt (Nat.lt_of_lt_of_le (by have := blt_ hw122_11; first | rwa [add_block] at this | exact this) GW123.out))) _).trans ?_ | exact (hHeld.2.2.2.2.2.2.2.2.2.2.2.2.2.2.2.1))), (by repeat (first | (with_reducible exact (hHeld.2.2.2.2.2.2.2.2.2.2.2.2.2.2.2.2.1)) | refine (cell_far (p := ⟨gb123, _, none⟩) (by first | exact Nat.ne_of_lt (Nat.lt_of_lt_of_le (by have := blt_ hw122_12; first | rwa [add_block] at this | exact this) GW123.out) | (rw [add_block]; exact Nat.ne_of_lt (Nat.lt_of_lt_of_le (by have := blt_ hw122_12; first | rwa [add_block] at this | exact this) GW123.out)) | (show (Addr.add _ _).block ≠ _; rw [add_block]; exact Nat.ne_of_lt (Nat.lt_of_lt_of_le (by have := blt_ hw122_12; first | rwa [add_block] at this | exact this) GW123.out)) | (dsimp only; exact Nat.ne_of_lt (Nat.lt_of_lt_of_le (by have := blt_ hw122_12; first | rwa [add_block] at this | exact this) GW123.out))) _).trans ?_ | exact (hHeld.2.2.2.2.2.2.2.2.2.2.2.2.2.2.2.2.1))), (by repeat (first | (with_reducible exact (hHeld.2.2.2.2.2.2.2.2.2.2.2.2.2.2.2.2.2)) | refine (cell_far (p := ⟨gb123, _, none⟩) (by first | exact Nat.ne_of_lt (Nat.lt_of_lt_of_le (by have := blt_ hw122_13; first | rwa [add_block] at this | exact this) GW123.out) | (rw [add_block]; exact Nat.ne_of_lt (Nat.lt_of_lt_of_le (by have := blt_ hw122_13; first | rwa [add_block] at this | exact this) GW123.out)) | (show (Addr.add _ _).block ≠ _; rw [add_block]; exact Nat.ne_of_lt (Nat.lt_of_lt_of_le (by have := blt_ hw122_13; first | rwa [add_block] at this | exact this) GW123.out)) | (dsimp only; exact Nat.ne_of_lt (Nat.lt_of_lt_of_le (by have := blt_ hw122_13; first | rwa [add_block] at this | exact this) GW123.out))) _).trans ?_ | exact (hHeld.2.2.2.2.2.2.2.2.2.2.2.2.2.2.2.2.2)))⟩ (fun hHeld => ?_)
                          clear hK K
                          refine done_ (done_of HT_.out (by kernel_rfl)) ?_
                          go_upto_region 21 with (fail)
                          go_cut [107] (fun v107 wc => ∃ (kq : Nat) (x107_59 : Bool), v107 = .bool x107_59 ∧ Aside0 (lambrequinlaw13_PlanEarly.j5 kq t102 t104 x6_2 x7_2 x9_4 x107_59 a0_0 l0_1 l0_2 ((rd_T47 l0_2 (rd t104 x7_2)).kind) ((rd_T47 l0_2 (rd t104 x7_2)).atom.pred) ((rd_T47 l0_2 (rd t104 x7_2)).atom.args) ((rd_T47 l0_2 (rd t104 x7_2)).op) ((rd_T47 l0_2 (rd t104 x7_2)).l.isVar) ((rd_T47 l0_2 (rd t104 x7_2)).l.name) ((rd_T47 l0_2 (rd t104 x7_2)).l.val.isSym) ((rd_T47 l0_2 (rd t104 x7_2)).l.val.sym) ((rd_T47 l0_2 (rd t104 x7_2)).l.val.n) ((rd_T47 l0_2 (rd t104 x7_2)).r.isVar) ((rd_T47 l0_2 (rd t104 x7_2)).r.name) ((rd_T47 l0_2 (rd t104 x7_2)).r.val.isSym) ((rd_T47 l0_2 (rd t104 x7_2)).r.val.sym) ((rd_T47 l0_2 (rd t104 x7_2)).r.val.n) = some r) ∧ Aside0 (kq ≤ kj49) ∧ Aside0 (Kd.R (Kd.int .i64) 3 wc w.heap.size (fun _ => True) (.slice (some ad110) t104.length co20) t104) ∧ Aside0 (Kd.R Kd.string 9 wc w.heap.size (fun _ => True) u6 x6_2) ∧ Aside0 (wc.heap[gb101]? = some (.cells #[.string a0_0, (.slice A0_1 l0_1.length c0_1), (.slice (some ad111) l0_2.length c0_2)] 27 (0, 0))) ∧ Aside0 (wc.heap[gb112]? = some (.cells #[.int .i64 ((rd_T47 l0_2 (rd t104 x7_2)).kind), .string ((rd_T47 l0_2 (rd t104 x7_2)).atom.pred), (.slice A111_2 ((rd_T47 l0_2 (rd t104 x7_2)).atom.args).length c111_2), .string ((rd_T47 l0_2 (rd t104 x7_2)).op), .bool ((rd_T47 l0_2 (rd t104 x7_2)).l.isVar), .string ((rd_T47 l0_2 (rd t104 x7_2)).l.name), .bool ((rd_T47 l0_2 (rd t104 x7_2)).l.val.isSym), .string ((rd_T47 l0_2 (rd t104 x7_2)).l.val.sym), .int .i64 ((rd_T47 l0_2 (rd t104 x7_2)).l.val.n), .bool ((rd_T47 l0_2 (rd t104 x7_2)).r.isVar), .string ((rd_T47 l0_2 (rd t104 x7_2)).r.name), .bool ((rd_T47 l0_2 (rd t104 x7_2)).r.val.isSym), .string ((rd_T47 l0_2 (rd t104 x7_2)).r.val.sym), .int .i64 ((rd_T47 l0_2 (rd t104 x7_2)).r.val.n)] 47 (0, 0))) ∧ Aside0 (wc.heap[gb123]? = some (.cells #[.int .i64 ((rd_T47 l0_2 (rd t104 x9_4)).kind), .string ((rd_T47 l0_2 (rd t104 x9_4)).atom.pred), (.slice A122_2 ((rd_T47 l0_2 (rd t104 x9_4)).atom.args).length c122_2), .string ((rd_T47 l0_2 (rd t104 x9_4)).op), .bool ((rd_T47 l0_2 (rd t104 x9_4)).l.isVar), .string ((rd_T47 l0_2 (rd t104 x9_4)).l.name), .bool ((rd_T47 l0_2 (rd t104 x9_4)).l.val.isSym), .string ((rd_T47 l0_2 (rd t104 x9_4)).l.val.sym), .int .i64 ((rd_T47 l0_2 (rd t104 x9_4)).l.val.n), .bool ((rd_T47 l0_2 (rd t104 x9_4)).r.isVar), .string ((rd_T47 l0_2 (rd t104 x9_4)).r.name), .bool ((rd_T47 l0_2 (rd t104 x9_4)).r.val.isSym), .string ((rd_T47 l0_2 (rd t104 x9_4)).r.val.sym), .int .i64 ((rd_T47 l0_2 (rd t104 x9_4)).r.val.n)] 47 (0, 0))) ∧ Aside0 (Below w.heap.size w wc))
                          case first =>
                           have H := HC60.out
                           clear HC60
                           by_cases c77 : ((rd_T47 l0_2 (rd t104 x9_4)).kind) = 1
                           ·rw [if_pos c77] at H
                            have c77b0 : (((rd_T47 l0_2 (rd t104 x9_4)).kind) == 1) = true := beq_iff_eq.mpr c77
                            have c77b1 : (((rd_T47 l0_2 (rd t104 x9_4)).kind) != 1) = false := bne_eq_false_iff_eq.mpr c77
                            clear c77
                            (first | rw [c77b0] | (simp only [i64_w, i32_w]; rw [c77b0]) | skip)
                            have H' := Aside0.mk H
                            clear H
                            have hnb78 := NB123_101.out
                            have hnc78 := NB101_123.out
                            have hnb79 := NB123_112.out
                            have hnc79 := NB112_123.out
                            have hcz80_0 : w62.cell? ⟨gb123, 0, none⟩ = some (.int .i64 0) := (blk_cell BK123.out 0).trans rfl
                            have hcz80_1 : w62.cell? ⟨gb123, 1, none⟩ = some (.string (⟨#[]⟩ : ByteArray)) := (blk_cell BK123.out 1).trans rfl
                            have hcz80_2 : w62.cell? ⟨gb123, 2, none⟩ = some (.slice none 0 0) := (blk_cell BK123.out 2).trans rfl
                            have hcz80_3 : w62.cell? ⟨gb123, 3, none⟩ = some (.string (⟨#[]⟩ : ByteArray)) := (blk_cell BK123.out 3).trans rfl
                            have hcz80_4 : w62.cell? ⟨gb123, 4, none⟩ = some (.bool false) := (blk_cell BK123.out 4).trans rfl
                            have hcz80_5 : w62.cell? ⟨gb123, 5, none⟩ = some (.string (⟨#[]⟩ : ByteArray)) := (blk_cell BK123.out 5).trans rfl
                            have hcz80_6 : w62.cell? ⟨gb123, 6, none⟩ = some (.bool false) := (blk_cell BK123.out 6).trans rfl
                            have hcz80_7 : w62.cell? ⟨gb123, 7, none⟩ = some (.string (⟨#[]⟩ : ByteArray)) := (blk_cell BK123.out 7).trans rfl
                            have hcz80_8 : w62.cell? ⟨gb123, 8, none⟩ = some (.int .i64 0) := (blk_cell BK123.out 8).trans rfl
                            have hcz80_9 : w62.cell? ⟨gb123, 9, none⟩ = some (.bool false) := (blk_cell BK123.out 9).trans rfl
                            have hcz80_10 : w62.cell? ⟨gb123, 10, none⟩ = some (.string (⟨#[]⟩ : ByteArray)) := (blk_cell BK123.out 10).trans rfl
                            have hcz80_11 : w62.cell? ⟨gb123, 11, none⟩ = some (.bool false) := (blk_cell BK123.out 11).trans rfl
                            have hcz80_12 : w62.cell? ⟨gb123, 12, none⟩ = some (.string (⟨#[]⟩ : ByteArray)) := (blk_cell BK123.out 12).trans rfl
                            have hcz80_13 : w62.cell? ⟨gb123, 13, none⟩ = some (.int .i64 0) := (blk_cell BK123.out 13).trans rfl
                            have hfz80_0 := blk_frozen BK123.out 0
                            have hfz80_1 := blk_frozen BK123.out 1
                            have hfz80_2 := blk_frozen BK123.out 2
                            have hfz80_3 := blk_frozen BK123.out 3
                            have hfz80_4 := blk_frozen BK123.out 4
                            have hfz80_5 := blk_frozen BK123.out 5
                            have hfz80_6 := blk_frozen BK123.out 6
                            have hfz80_7 := blk_frozen BK123.out 7
                            have hfz80_8 := blk_frozen BK123.out 8
                            have hfz80_9 := blk_frozen BK123.out 9
                            have hfz80_10 := blk_frozen BK123.out 10
                            have hfz80_11 := blk_frozen BK123.out 11
                            have hfz80_12 := blk_frozen BK123.out 12
                            have hfz80_13 := blk_frozen BK123.out 13
                            go_wp2
                            go_meet
                            case rel => exact ⟨_, (false), (by first | rfl | (simp; done) | (simp [*]; done)), H', ⟨by have := HJ5.out; have := HK2.out; have := HJ18.out; have := HK4.out; have := HJ49.out; first | omega | exact Nat.le_refl _⟩, ⟨by (with_reducible repeat (first | apply Kd.R_alloc | apply Kd.R_drewN | apply Kd.R_drew)); exact Kd.R_mono (Kd.R_far (p := ⟨gb123, 13, none⟩) (Kd.R_far (p := ⟨gb123, 12, none⟩) (Kd.R_far (p := ⟨gb123, 11, none⟩) (Kd.R_far (p := ⟨gb123, 10, none⟩) (Kd.R_far (p := ⟨gb123, 9, none⟩) (Kd.R_far (p := ⟨gb123, 8, none⟩) (Kd.R_far (p := ⟨gb123, 7, none⟩) (Kd.R_far (p := ⟨gb123, 6, none⟩) (Kd.R_far (p := ⟨gb123, 5, none⟩) (Kd.R_far (p := ⟨gb123, 4, none⟩) (Kd.R_far (p := ⟨gb123, 3, none⟩) (Kd.R_far (p := ⟨gb123, 2, none⟩) (Kd.R_far (p := ⟨gb123, 1, none⟩) (Kd.R_far (p := ⟨gb123, 0, none⟩) (Kd.R_types HO_4.out BK123.out (by decide)) (fun _ hk => hk.2) _) (fun _ hk => hk.2) _) (fun _ hk => hk.2) _) (fun _ hk => hk.2) _) (fun _ hk => hk.2) _) (fun _ hk => hk.2) _) (fun _ hk => hk.2) _) (fun _ hk => hk.2) _) (fun _ hk => hk.2) _) (fun _ hk => hk.2) _) (fun _ hk => hk.2) _) (fun _ hk => hk.2) _) (fun _ hk => hk.2) _) (fun _ hk => hk.2) _) (fun _ hk => trivial)⟩, ⟨by (with_reducible repeat (first | apply Kd.R_alloc | apply Kd.R_drewN | apply Kd.R_drew)); exact Kd.R_mono (Kd.R_far (p := ⟨gb123, 13, none⟩) (Kd.R_far (p := ⟨gb123, 12, none⟩) (Kd.R_far (p := ⟨gb123, 11, none⟩) (Kd.R_far (p := ⟨gb123, 10, none⟩) (Kd.R_far (p := ⟨gb123, 9, none⟩) (Kd.R_far (p := ⟨gb123, 8, none⟩) (Kd.R_far (p := ⟨gb123, 7, none⟩) (Kd.R_far (p := ⟨gb123, 6, none⟩) (Kd.R_far (p := ⟨gb123, 5, none⟩) (Kd.R_far (p := ⟨gb123, 4, none⟩) (Kd.R_far (p := ⟨gb123, 3, none⟩) (Kd.R_far (p := ⟨gb123, 2, none⟩) (Kd.R_far (p := ⟨gb123, 1, none⟩) (Kd.R_far (p := ⟨gb123, 0, none⟩) (Kd.R_types HO_6.out BK123.out (by decide)) (fun _ hk => hk.2) _) (fun _ hk => hk.2) _) (fun _ hk => hk.2) _) (fun _ hk => hk.2) _) (fun _ hk => hk.2) _) (fun _ hk => hk.2) _) (fun _ hk => hk.2) _) (fun _ hk => hk.2) _) (fun _ hk => hk.2) _) (fun _ hk => hk.2) _) (fun _ hk => hk.2) _) (fun _ hk => hk.2) _) (fun _ hk => hk.2) _) (fun _ hk => hk.2) _) (fun _ hk => trivial)⟩, ⟨by repeat (first | (with_reducible first | exact BK101.out | refine blk_drewN ?_ _ | refine blk_drew ?_ | refine blk_alloc ?_ _) | refine blk_far ?_ NB101_123.out _ | exact BK101.out)⟩, ⟨by repeat (first | (with_reducible first | exact BK112.out | refine blk_drewN ?_ _ | refine blk_drew ?_ | refine blk_alloc ?_ _) | refine blk_far ?_ NB112_123.out _ | exact BK112.out)⟩, ⟨by (with_reducible repeat (first | refine blk_drewN ?_ _ | refine blk_drew ?_ | refine blk_alloc ?_ _)); refine blk_put (cs := #[.int .i64 ((rd_T47 l0_2 (rd t104 x9_4)).kind), .string ((rd_T47 l0_2 (rd t104 x9_4)).atom.pred), .slice A122_2 ((rd_T47 l0_2 (rd t104 x9_4)).atom.args).length c122_2, .string ((rd_T47 l0_2 (rd t104 x9_4)).op), .bool ((rd_T47 l0_2 (rd t104 x9_4)).l.isVar), .string ((rd_T47 l0_2 (rd t104 x9_4)).l.name), .bool ((rd_T47 l0_2 (rd t104 x9_4)).l.val.isSym), .string ((rd_T47 l0_2 (rd t104 x9_4)).l.val.sym), .int .i64 ((rd_T47 l0_2 (rd t104 x9_4)).l.val.n), .bool ((rd_T47 l0_2 (rd t104 x9_4)).r.isVar), .string ((rd_T47 l0_2 (rd t104 x9_4)).r.name), .bool ((rd_T47 l0_2 (rd t104 x9_4)).r.val.isSym), .string ((rd_T47 l0_2 (rd t104 x9_4)).r.val.sym), .int .i64 0]) ?_ 13 _ rfl; (with_reducible repeat (first | refine blk_drewN ?_ _ | refine blk_drew ?_ | refine blk_alloc ?_ _)); refine blk_put (cs := #[.int .i64 ((rd_T47 l0_2 (rd t104 x9_4)).kind), .string ((rd_T47 l0_2 (rd t104 x9_4)).atom.pred), .slice A122_2 ((rd_T47 l0_2 (rd t104 x9_4)).atom.args).length c122_2, .string ((rd_T47 l0_2 (rd t104 x9_4)).op), .bool ((rd_T47 l0_2 (rd t104 x9_4)).l.isVar), .string ((rd_T47 l0_2 (rd t104 x9_4)).l.name), .bool ((rd_T47 l0_2 (rd t104 x9_4)).l.val.isSym), .string ((rd_T47 l0_2 (rd t104 x9_4)).l.val.sym), .int .i64 ((rd_T47 l0_2 (rd t104 x9_4)).l.val.n), .bool ((rd_T47 l0_2 (rd t104 x9_4)).r.isVar), .string ((rd_T47 l0_2 (rd t104 x9_4)).r.name), .bool ((rd_T47 l0_2 (rd t104 x9_4)).r.val.isSym), .string (⟨#[]⟩ : ByteArray), .int .i64 0]) ?_ 12 _ rfl; (with_reducible repeat (first | refine blk_drewN ?_ _ | refine blk_drew ?_ | refine blk_alloc ?_ _)); refine blk_put (cs := #[.int .i64 ((rd_T47 l0_2 (rd t104 x9_4)).kind), .string ((rd_T47 l0_2 (rd t104 x9_4)).atom.pred), .slice A122_2 ((rd_T47 l0_2 (rd t104 x9_4)).atom.args).length c122_2, .string ((rd_T47 l0_2 (rd t104 x9_4)).op), .bool ((rd_T47 l0_2 (rd t104 x9_4)).l.isVar), .string ((rd_T47 l0_2 (rd t104 x9_4)).l.name), .bool ((rd_T47 l0_2 (rd t104 x9_4)).l.val.isSym), .string ((rd_T47 l0_2 (rd t104 x9_4)).l.val.sym), .int .i64 ((rd_T47 l0_2 (rd t104 x9_4)).l.val.n), .bool ((rd_T47 l0_2 (rd t104 x9_4)).r.isVar), .string ((rd_T47 l0_2 (rd t104 x9_4)).r.name), .bool false, .string (⟨#[]⟩ : ByteArray), .int .i64 0]) ?_ 11 _ rfl; (with_reducible repeat (first | refine blk_drewN ?_ _ | refine blk_drew ?_ | refine blk_alloc ?_ _)); refine blk_put (cs := #[.int .i64 ((rd_T47 l0_2 (rd t104 x9_4)).kind), .string ((rd_T47 l0_2 (rd t104 x9_4)).atom.pred), .slice A122_2 ((rd_T47 l0_2 (rd t104 x9_4)).atom.args).length c122_2, .string ((rd_T47 l0_2 (rd t104 x9_4)).op), .bool ((rd_T47 l0_2 (rd t104 x9_4)).l.isVar), .string ((rd_T47 l0_2 (rd t104 x9_4)).l.name), .bool ((rd_T47 l0_2 (rd t104 x9_4)).l.val.isSym), .string ((rd_T47 l0_2 (rd t104 x9_4)).l.val.sym), .int .i64 ((rd_T47 l0_2 (rd t104 x9_4)).l.val.n), .bool ((rd_T47 l0_2 (rd t104 x9_4)).r.isVar), .string (⟨#[]⟩ : ByteArray), .bool false, .string (⟨#[]⟩ : ByteArray), .int .i64 0]) ?_ 10 _ rfl; (with_reducible repeat (first | refine blk_drewN ?_ _ | refine blk_drew ?_ | refine blk_alloc ?_ _)); refine blk_put (cs := #[.int .i64 ((rd_T47 l0_2 (rd t104 x9_4)).kind), .string ((rd_T47 l0_2 (rd t104 x9_4)).atom.pred), .slice A122_2 ((rd_T47 l0_2 (rd t104 x9_4)).atom.args).length c122_2, .string ((rd_T47 l0_2 (rd t104 x9_4)).op), .bool ((rd_T47 l0_2 (rd t104 x9_4)).l.isVar), .string ((rd_T47 l0_2 (rd t104 x9_4)).l.name), .bool ((rd_T47 l0_2 (rd t104 x9_4)).l.val.isSym), .string ((rd_T47 l0_2 (rd t104 x9_4)).l.val.sym), .int .i64 ((rd_T47 l0_2 (rd t104 x9_4)).l.val.n), .bool false, .string (⟨#[]⟩ : ByteArray), .bool false, .string (⟨#[]⟩ : ByteArray), .int .i64 0]) ?_ 9 _ rfl; (with_reducible repeat (first | refine blk_drewN ?_ _ | refine blk_drew ?_ | refine blk_alloc ?_ _)); refine blk_put (cs := #[.int .i64 ((rd_T47 l0_2 (rd t104 x9_4)).kind), .string ((rd_T47 l0_2 (rd t104 x9_4)).atom.pred), .slice A122_2 ((rd_T47 l0_2 (rd t104 x9_4)).atom.args).length c122_2, .string ((rd_T47 l0_2 (rd t104 x9_4)).op), .bool ((rd_T47 l0_2 (rd t104 x9_4)).l.isVar), .string ((rd_T47 l0_2 (rd t104 x9_4)).l.name), .bool ((rd_T47 l0_2 (rd t104 x9_4)).l.val.isSym), .string ((rd_T47 l0_2 (rd t104 x9_4)).l.val.sym), .int .i64 0, .bool false, .string (⟨#[]⟩ : ByteArray), .bool false, .string (⟨#[]⟩ : ByteArray), .int .i64 0]) ?_ 8 _ rfl; (with_reducible repeat (first | refine blk_drewN ?_ _ | refine blk_drew ?_ | refine blk_alloc ?_ _)); refine blk_put (cs := #[.int .i64 ((rd_T47 l0_2 (rd t104 x9_4)).kind), .string ((rd_T47 l0_2 (rd t104 x9_4)).atom.pred), .slice A122_2 ((rd_T47 l0_2 (rd t104 x9_4)).atom.args).length c122_2, .string ((rd_T47 l0_2 (rd t104 x9_4)).op), .bool ((rd_T47 l0_2 (rd t104 x9_4)).l.isVar), .string ((rd_T47 l0_2 (rd t104 x9_4)).l.name), .bool ((rd_T47 l0_2 (rd t104 x9_4)).l.val.isSym), .string (⟨#[]⟩ : ByteArray), .int .i64 0, .bool false, .string (⟨#[]⟩ : ByteArray), .bool false, .string (⟨#[]⟩ : ByteArray), .int .i64 0]) ?_ 7 _ rfl; (with_reducible repeat (first | refine blk_drewN ?_ _ | refine blk_drew ?_ | refine blk_alloc ?_ _)); refine blk_put (cs := #[.int .i64 ((rd_T47 l0_2 (rd t104 x9_4)).kind), .string ((rd_T47 l0_2 (rd t104 x9_4)).atom.pred), .slice A122_2 ((rd_T47 l0_2 (rd t104 x9_4)).atom.args).length c122_2, .string ((rd_T47 l0_2 (rd t104 x9_4)).op), .bool ((rd_T47 l0_2 (rd t104 x9_4)).l.isVar), .string ((rd_T47 l0_2 (rd t104 x9_4)).l.name), .bool false, .string (⟨#[]⟩ : ByteArray), .int .i64 0, .bool false, .string (⟨#[]⟩ : ByteArray), .bool false, .string (⟨#[]⟩ : ByteArray), .int .i64 0]) ?_ 6 _ rfl; (with_reducible repeat (first | refine blk_drewN ?_ _ | refine blk_drew ?_ | refine blk_alloc ?_ _)); refine blk_put (cs := #[.int .i64 ((rd_T47 l0_2 (rd t104 x9_4)).kind), .string ((rd_T47 l0_2 (rd t104 x9_4)).atom.pred), .slice A122_2 ((rd_T47 l0_2 (rd t104 x9_4)).atom.args).length c122_2, .string ((rd_T47 l0_2 (rd t104 x9_4)).op), .bool ((rd_T47 l0_2 (rd t104 x9_4)).l.isVar), .string (⟨#[]⟩ : ByteArray), .bool false, .string (⟨#[]⟩ : ByteArray), .int .i64 0, .bool false, .string (⟨#[]⟩ : ByteArray), .bool false, .string (⟨#[]⟩ : ByteArray), .int .i64 0]) ?_ 5 _ rfl; (with_reducible repeat (first | refine blk_drewN ?_ _ | refine blk_drew ?_ | refine blk_alloc ?_ _)); refine blk_put (cs := #[.int .i64 ((rd_T47 l0_2 (rd t104 x9_4)).kind), .string ((rd_T47 l0_2 (rd t104 x9_4)).atom.pred), .slice A122_2 ((rd_T47 l0_2 (rd t104 x9_4)).atom.args).length c122_2, .string ((rd_T47 l0_2 (rd t104 x9_4)).op), .bool false, .string (⟨#[]⟩ : ByteArray), .bool false, .string (⟨#[]⟩ : ByteArray), .int .i64 0, .bool false, .string (⟨#[]⟩ : ByteArray), .bool false, .string (⟨#[]⟩ : ByteArray), .int .i64 0]) ?_ 4 _ rfl; (with_reducible repeat (first | refine blk_drewN ?_ _ | refine blk_drew ?_ | refine blk_alloc ?_ _)); refine blk_put (cs := #[.int .i64 ((rd_T47 l0_2 (rd t104 x9_4)).kind), .string ((rd_T47 l0_2 (rd t104 x9_4)).atom.pred), .slice A122_2 ((rd_T47 l0_2 (rd t104 x9_4)).atom.args).length c122_2, .string (⟨#[]⟩ : ByteArray), .bool false, .string (⟨#[]⟩ : ByteArray), .bool false, .string (⟨#[]⟩ : ByteArray), .int .i64 0, .bool false, .string (⟨#[]⟩ : ByteArray), .bool false, .string (⟨#[]⟩ : ByteArray), .int .i64 0]) ?_ 3 _ rfl; (with_reducible repeat (first | refine blk_drewN ?_ _ | refine blk_drew ?_ | refine blk_alloc ?_ _)); refine blk_put (cs := #[.int .i64 ((rd_T47 l0_2 (rd t104 x9_4)).kind), .string ((rd_T47 l0_2 (rd t104 x9_4)).atom.pred), .slice none 0 0, .string (⟨#[]⟩ : ByteArray), .bool false, .string (⟨#[]⟩ : ByteArray), .bool false, .string (⟨#[]⟩ : ByteArray), .int .i64 0, .bool false, .string (⟨#[]⟩ : ByteArray), .bool false, .string (⟨#[]⟩ : ByteArray), .int .i64 0]) ?_ 2 _ rfl; (with_reducible repeat (first | refine blk_drewN ?_ _ | refine blk_drew ?_ | refine blk_alloc ?_ _)); refine blk_put (cs := #[.int .i64 ((rd_T47 l0_2 (rd t104 x9_4)).kind), .string (⟨#[]⟩ : ByteArray), .slice none 0 0, .string (⟨#[]⟩ : ByteArray), .bool false, .string (⟨#[]⟩ : ByteArray), .bool false, .string (⟨#[]⟩ : ByteArray), .int .i64 0, .bool false, .string (⟨#[]⟩ : ByteArray), .bool false, .string (⟨#[]⟩ : ByteArray), .int .i64 0]) ?_ 1 _ rfl; (with_reducible repeat (first | refine blk_drewN ?_ _ | refine blk_drew ?_ | refine blk_alloc ?_ _)); refine blk_put (cs := #[.int .i64 0, .string (⟨#[]⟩ : ByteArray), .slice none 0 0, .string (⟨#[]⟩ : ByteArray), .bool false, .string (⟨#[]⟩ : ByteArray), .bool false, .string (⟨#[]⟩ : ByteArray), .int .i64 0, .bool false, .string (⟨#[]⟩ : ByteArray), .bool false, .string (⟨#[]⟩ : ByteArray), .int .i64 0]) ?_ 0 _ rfl; (with_reducible repeat (first | refine blk_drewN ?_ _ | refine blk_drew ?_ | refine blk_alloc ?_ _)); exact BK123.out⟩, ⟨by repeat (first | (with_reducible first | exact HB.out | apply below_alloc | apply pw_below_drewN | apply below_drew1 | refine below_set ?_ GE101.out | refine below_set ?_ GE112.out | refine below_set ?_ GE123.out) | exact HB.out)⟩⟩
                           ·rw [if_neg c77] at H
                            have c77b0 : (((rd_T47 l0_2 (rd t104 x9_4)).kind) == 1) = false := beq_eq_false_iff_ne.mpr c77
                            have c77b1 : (((rd_T47 l0_2 (rd t104 x9_4)).kind) != 1) = true := bne_iff_ne.mpr c77
                            (first | rw [c77b0] | (simp only [i64_w, i32_w]; rw [c77b0]) | skip)
                            replace H := Option.bind_eq_some_iff.mp H
                            obtain ⟨t124, A810, H⟩ := H
                            replace H : ((lambrequinref13_Known.f kj49 t124 x6_2).bind fun t127 => (lambrequinlaw13_PlanEarly.j5 kj49 t102 t104 x6_2 x7_2 x9_4 t127 a0_0 l0_1 l0_2 ((rd_T47 l0_2 (rd t104 x7_2)).kind) ((rd_T47 l0_2 (rd t104 x7_2)).atom.pred) ((rd_T47 l0_2 (rd t104 x7_2)).atom.args) ((rd_T47 l0_2 (rd t104 x7_2)).op) ((rd_T47 l0_2 (rd t104 x7_2)).l.isVar) ((rd_T47 l0_2 (rd t104 x7_2)).l.name) ((rd_T47 l0_2 (rd t104 x7_2)).l.val.isSym) ((rd_T47 l0_2 (rd t104 x7_2)).l.val.sym) ((rd_T47 l0_2 (rd t104 x7_2)).l.val.n) ((rd_T47 l0_2 (rd t104 x7_2)).r.isVar) ((rd_T47 l0_2 (rd t104 x7_2)).r.name) ((rd_T47 l0_2 (rd t104 x7_2)).r.val.isSym) ((rd_T47 l0_2 (rd t104 x7_2)).r.val.sym) ((rd_T47 l0_2 (rd t104 x7_2)).r.val.n))) = some r := H
                            have A81 := Aside0.mk A810
                            clear A810
                            replace H := Option.bind_eq_some_iff.mp H
                            obtain ⟨t127, A820, H⟩ := H
                            replace H : (lambrequinlaw13_PlanEarly.j5 kj49 t102 t104 x6_2 x7_2 x9_4 t127 a0_0 l0_1 l0_2 ((rd_T47 l0_2 (rd t104 x7_2)).kind) ((rd_T47 l0_2 (rd t104 x7_2)).atom.pred) ((rd_T47 l0_2 (rd t104 x7_2)).atom.args) ((rd_T47 l0_2 (rd t104 x7_2)).op) ((rd_T47 l0_2 (rd t104 x7_2)).l.isVar) ((rd_T47 l0_2 (rd t104 x7_2)).l.name) ((rd_T47 l0_2 (rd t104 x7_2)).l.val.isSym) ((rd_T47 l0_2 (rd t104 x7_2)).l.val.sym) ((rd_T47 l0_2 (rd t104 x7_2)).l.val.n) ((rd_T47 l0_2 (rd t104 x7_2)).r.isVar) ((rd_T47 l0_2 (rd t104 x7_2)).r.name) ((rd_T47 l0_2 (rd t104 x7_2)).r.val.isSym) ((rd_T47 l0_2 (rd t104 x7_2)).r.val.sym) ((rd_T47 l0_2 (rd t104 x7_2)).r.val.n)) = some r := H
                            have A82 := Aside0.mk A820
                            clear A820
                            have H' := Aside0.mk H
                            clear H
                            have hnb83 := NB123_101.out
                            have hnc83 := NB101_123.out
                            have hnb84 := NB123_112.out
                            have hnc84 := NB112_123.out
                            have hcz85_0 : w62.cell? ⟨gb123, 0, none⟩ = some (.int .i64 0) := (blk_cell BK123.out 0).trans rfl
                            have hcz85_1 : w62.cell? ⟨gb123, 1, none⟩ = some (.string (⟨#[]⟩ : ByteArray)) := (blk_cell BK123.out 1).trans rfl
                            have hcz85_2 : w62.cell? ⟨gb123, 2, none⟩ = some (.slice none 0 0) := (blk_cell BK123.out 2).trans rfl
                            have hcz85_3 : w62.cell? ⟨gb123, 3, none⟩ = some (.string (⟨#[]⟩ : ByteArray)) := (blk_cell BK123.out 3).trans rfl
                            have hcz85_4 : w62.cell? ⟨gb123, 4, none⟩ = some (.bool false) := (blk_cell BK123.out 4).trans rfl
                            have hcz85_5 : w62.cell? ⟨gb123, 5, none⟩ = some (.string (⟨#[]⟩ : ByteArray)) := (blk_cell BK123.out 5).trans rfl
                            have hcz85_6 : w62.cell? ⟨gb123, 6, none⟩ = some (.bool false) := (blk_cell BK123.out 6).trans rfl
                            have hcz85_7 : w62.cell? ⟨gb123, 7, none⟩ = some (.string (⟨#[]⟩ : ByteArray)) := (blk_cell BK123.out 7).trans rfl
                            have hcz85_8 : w62.cell? ⟨gb123, 8, none⟩ = some (.int .i64 0) := (blk_cell BK123.out 8).trans rfl
                            have hcz85_9 : w62.cell? ⟨gb123, 9, none⟩ = some (.bool false) := (blk_cell BK123.out 9).trans rfl
                            have hcz85_10 : w62.cell? ⟨gb123, 10, none⟩ = some (.string (⟨#[]⟩ : ByteArray)) := (blk_cell BK123.out 10).trans rfl
                            have hcz85_11 : w62.cell? ⟨gb123, 11, none⟩ = some (.bool false) := (blk_cell BK123.out 11).trans rfl
                            have hcz85_12 : w62.cell? ⟨gb123, 12, none⟩ = some (.string (⟨#[]⟩ : ByteArray)) := (blk_cell BK123.out 12).trans rfl
                            have hcz85_13 : w62.cell? ⟨gb123, 13, none⟩ = some (.int .i64 0) := (blk_cell BK123.out 13).trans rfl
                            have hfz85_0 := blk_frozen BK123.out 0
                            have hfz85_1 := blk_frozen BK123.out 1
                            have hfz85_2 := blk_frozen BK123.out 2
                            have hfz85_3 := blk_frozen BK123.out 3
                            have hfz85_4 := blk_frozen BK123.out 4
                            have hfz85_5 := blk_frozen BK123.out 5
                            have hfz85_6 := blk_frozen BK123.out 6
                            have hfz85_7 := blk_frozen BK123.out 7
                            have hfz85_8 := blk_frozen BK123.out 8
                            have hfz85_9 := blk_frozen BK123.out 9
                            have hfz85_10 := blk_frozen BK123.out 10
                            have hfz85_11 := blk_frozen BK123.out 11
                            have hfz85_12 := blk_frozen BK123.out 12
                            have hfz85_13 := blk_frozen BK123.out 13
                            go_wp2_with (first | (go_at_call 24; (with_reducible refine (lambrequinref13_Terms.calls ((rd_T47 l0_2 (rd t104 x9_4)).kind) ((rd_T47 l0_2 (rd t104 x9_4)).atom.pred) (fun k_ => k_ < w.heap.size) _ _ ((rd_T47 l0_2 (rd t104 x9_4)).atom.args) ((rd_T47 l0_2 (rd t104 x9_4)).op) ((rd_T47 l0_2 (rd t104 x9_4)).l.isVar) ((rd_T47 l0_2 (rd t104 x9_4)).l.name) ((rd_T47 l0_2 (rd t104 x9_4)).l.val.isSym) ((rd_T47 l0_2 (rd t104 x9_4)).l.val.sym) ((rd_T47 l0_2 (rd t104 x9_4)).l.val.n) ((rd_T47 l0_2 (rd t104 x9_4)).r.isVar) ((rd_T47 l0_2 (rd t104 x9_4)).r.name) ((rd_T47 l0_2 (rd t104 x9_4)).r.val.isSym) ((rd_T47 l0_2 (rd t104 x9_4)).r.val.sym) ((rd_T47 l0_2 (rd t104 x9_4)).r.val.n) t124 _ ?side1 A81.out).mono ?_); (case side1 => exact Kd.V_mk HC122_2.out (Kd.F_below (Kd.C_F k45_heap HR122_2.out) (by repeat (first | (with_reducible first | exact HB.out | apply below_alloc | apply pw_below_drewN | apply below_drew1 | refine below_set ?_ GE101.out | refine below_set ?_ GE112.out | refine below_set ?_ GE123.out) | exact HB.out)))); rintro e w86 ⟨v125, rfl, ho0, hb⟩; have n0_ := Aside0.mk (Kd.R_below (by (with_reducible repeat (first | apply Kd.R_alloc | apply Kd.R_drewN | apply Kd.R_drew)); exact (Kd.R_mono (Kd.R_far (p := ⟨gb123, 13, none⟩) (Kd.R_far (p := ⟨gb123, 12, none⟩) (Kd.R_far (p := ⟨gb123, 11, none⟩) (Kd.R_far (p := ⟨gb123, 10, none⟩) (Kd.R_far (p := ⟨gb123, 9, none⟩) (Kd.R_far (p := ⟨gb123, 8, none⟩) (Kd.R_far (p := ⟨gb123, 7, none⟩) (Kd.R_far (p := ⟨gb123, 6, none⟩) (Kd.R_far (p := ⟨gb123, 5, none⟩) (Kd.R_far (p := ⟨gb123, 4, none⟩) (Kd.R_far (p := ⟨gb123, 3, none⟩) (Kd.R_far (p := ⟨gb123, 2, none⟩) (Kd.R_far (p := ⟨gb123, 1, none⟩) (Kd.R_far (p := ⟨gb123, 0, none⟩) (Kd.R_types HO_4.out BK123.out (by decide)) (fun _ hk => hk.2) _) (fun _ hk => hk.2) _) (fun _ hk => hk.2) _) (fun _ hk => hk.2) _) (fun _ hk => hk.2) _) (fun _ hk => hk.2) _) (fun _ hk => hk.2) _) (fun _ hk => hk.2) _) (fun _ hk => hk.2) _) (fun _ hk => hk.2) _) (fun _ hk => hk.2) _) (fun _ hk => hk.2) _) (fun _ hk => hk.2) _) (fun _ hk => hk.2) _) (fun _ h_ => h_.1))) hb); have n1_ := Aside0.mk (Kd.R_below (by (with_reducible repeat (first | apply Kd.R_alloc | apply Kd.R_drewN | apply Kd.R_drew)); exact (Kd.R_mono (Kd.R_far (p := ⟨gb123, 13, none⟩) (Kd.R_far (p := ⟨gb123, 12, none⟩) (Kd.R_far (p := ⟨gb123, 11, none⟩) (Kd.R_far (p := ⟨gb123, 10, none⟩) (Kd.R_far (p := ⟨gb123, 9, none⟩) (Kd.R_far (p := ⟨gb123, 8, none⟩) (Kd.R_far (p := ⟨gb123, 7, none⟩) (Kd.R_far (p := ⟨gb123, 6, none⟩) (Kd.R_far (p := ⟨gb123, 5, none⟩) (Kd.R_far (p := ⟨gb123, 4, none⟩) (Kd.R_far (p := ⟨gb123, 3, none⟩) (Kd.R_far (p := ⟨gb123, 2, none⟩) (Kd.R_far (p := ⟨gb123, 1, none⟩) (Kd.R_far (p := ⟨gb123, 0, none⟩) (Kd.R_types HO_6.out BK123.out (by decide)) (fun _ hk => hk.2) _) (fun _ hk => hk.2) _) (fun _ hk => hk.2) _) (fun _ hk => hk.2) _) (fun _ hk => hk.2) _) (fun _ hk => hk.2) _) (fun _ hk => hk.2) _) (fun _ hk => hk.2) _) (fun _ hk => hk.2) _) (fun _ hk => hk.2) _) (fun _ hk => hk.2) _) (fun _ hk => hk.2) _) (fun _ hk => hk.2) _) (fun _ hk => hk.2) _) (fun _ h_ => h_.1))) hb); have n2_ := Aside0.mk (Kd.V_lower (Kd.V_mono (ok' := fun k_ => some k_ ≠ (.slice (some ad110) t104.length co20 : Value).ownBlock ∧ some k_ ≠ (u6 : Value).ownBlock ∧ k_ ≠ gb101 ∧ k_ ≠ gb112 ∧ k_ ≠ gb123) ho0 (fun k_ hk_ => ⟨Or.elim hk_ (fun hs_ => fun e_ => Nat.not_le.2 hs_ (Kd.R_base HO_4.out k_ e_.symm)) (fun hn_ => (Kd.fresh' (Kd.R_lt (by (with_reducible repeat (first | apply Kd.R_alloc | apply Kd.R_drewN | apply Kd.R_drew)); exact (Kd.R_mono (Kd.R_far (p := ⟨gb123, 13, none⟩) (Kd.R_far (p := ⟨gb123, 12, none⟩) (Kd.R_far (p := ⟨gb123, 11, none⟩) (Kd.R_far (p := ⟨gb123, 10, none⟩) (Kd.R_far (p := ⟨gb123, 9, none⟩) (Kd.R_far (p := ⟨gb123, 8, none⟩) (Kd.R_far (p := ⟨gb123, 7, none⟩) (Kd.R_far (p := ⟨gb123, 6, none⟩) (Kd.R_far (p := ⟨gb123, 5, none⟩) (Kd.R_far (p := ⟨gb123, 4, none⟩) (Kd.R_far (p := ⟨gb123, 3, none⟩) (Kd.R_far (p := ⟨gb123, 2, none⟩) (Kd.R_far (p := ⟨gb123, 1, none⟩) (Kd.R_far (p := ⟨gb123, 0, none⟩) (Kd.R_types HO_4.out BK123.out (by decide)) (fun _ hk => hk.2) _) (fun _ hk => hk.2) _) (fun _ hk => hk.2) _) (fun _ hk => hk.2) _) (fun _ hk => hk.2) _) (fun _ hk => hk.2) _) (fun _ hk => hk.2) _) (fun _ hk => hk.2) _) (fun _ hk => hk.2) _) (fun _ hk => hk.2) _) (fun _ hk => hk.2) _) (fun _ hk => hk.2) _) (fun _ hk => hk.2) _) (fun _ hk => hk.2) _) (fun _ h_ => h_.1)))) k_ hn_)), Or.elim hk_ (fun hs_ => fun e_ => Nat.not_le.2 hs_ (Kd.R_base HO_6.out k_ e_.symm)) (fun hn_ => (Kd.fresh' (Kd.R_lt (by (with_reducible repeat (first | apply Kd.R_alloc | apply Kd.R_drewN | apply Kd.R_drew)); exact (Kd.R_mono (Kd.R_far (p := ⟨gb123, 13, none⟩) (Kd.R_far (p := ⟨gb123, 12, none⟩) (Kd.R_far (p := ⟨gb123, 11, none⟩) (Kd.R_far (p := ⟨gb123, 10, none⟩) (Kd.R_far (p := ⟨gb123, 9, none⟩) (Kd.R_far (p := ⟨gb123, 8, none⟩) (Kd.R_far (p := ⟨gb123, 7, none⟩) (Kd.R_far (p := ⟨gb123, 6, none⟩) (Kd.R_far (p := ⟨gb123, 5, none⟩) (Kd.R_far (p := ⟨gb123, 4, none⟩) (Kd.R_far (p := ⟨gb123, 3, none⟩) (Kd.R_far (p := ⟨gb123, 2, none⟩) (Kd.R_far (p := ⟨gb123, 1, none⟩) (Kd.R_far (p := ⟨gb123, 0, none⟩) (Kd.R_types HO_6.out BK123.out (by decide)) (fun _ hk => hk.2) _) (fun _ hk => hk.2) _) (fun _ hk => hk.2) _) (fun _ hk => hk.2) _) (fun _ hk => hk.2) _) (fun _ hk => hk.2) _) (fun _ hk => hk.2) _) (fun _ hk => hk.2) _) (fun _ hk => hk.2) _) (fun _ hk => hk.2) _) (fun _ hk => hk.2) _) (fun _ hk => hk.2) _) (fun _ hk => hk.2) _) (fun _ hk => hk.2) _) (fun _ h_ => h_.1)))) k_ hn_)), Or.elim hk_ (fun hs_ => fun e_ => Nat.not_le.2 hs_ (by rw [e_]; exact GW101.out)) (fun hn_ => (Kd.freshB (g := gb101) (o := .cells #[.string a0_0, .slice A0_1 l0_1.length c0_1, .slice (some ad111) l0_2.length c0_2] 27 (0, 0)) (by repeat (first | (with_reducible first | exact BK101.out | refine blk_drewN ?_ _ | refine blk_drew ?_ | refine blk_alloc ?_ _) | refine blk_far ?_ NB101_123.out _ | exact BK101.out)) k_ hn_)), Or.elim hk_ (fun hs_ => fun e_ => Nat.not_le.2 hs_ (by rw [e_]; exact GW112.out)) (fun hn_ => (Kd.freshB (g := gb112) (o := .cells #[.int .i64 ((rd_T47 l0_2 (rd t104 x7_2)).kind), .string ((rd_T47 l0_2 (rd t104 x7_2)).atom.pred), .slice A111_2 ((rd_T47 l0_2 (rd t104 x7_2)).atom.args).length c111_2, .string ((rd_T47 l0_2 (rd t104 x7_2)).op), .bool ((rd_T47 l0_2 (rd t104 x7_2)).l.isVar), .string ((rd_T47 l0_2 (rd t104 x7_2)).l.name), .bool ((rd_T47 l0_2 (rd t104 x7_2)).l.val.isSym), .string ((rd_T47 l0_2 (rd t104 x7_2)).l.val.sym), .int .i64 ((rd_T47 l0_2 (rd t104 x7_2)).l.val.n), .bool ((rd_T47 l0_2 (rd t104 x7_2)).r.isVar), .string ((rd_T47 l0_2 (rd t104 x7_2)).r.name), .bool ((rd_T47 l0_2 (rd t104 x7_2)).r.val.isSym), .string ((rd_T47 l0_2 (rd t104 x7_2)).r.val.sym), .int .i64 ((rd_T47 l0_2 (rd t104 x7_2)).r.val.n)] 47 (0, 0)) (by repeat (first | (with_reducible first | exact BK112.out | refine blk_drewN ?_ _ | refine blk_drew ?_ | refine blk_alloc ?_ _) | refine blk_far ?_ NB112_123.out _ | exact BK112.out)) k_ hn_)), Or.elim hk_ (fun hs_ => fun e_ => Nat.not_le.2 hs_ (by rw [e_]; exact GW123.out)) (fun hn_ => (Kd.freshB (g := gb123) (o := .cells #[.int .i64 ((rd_T47 l0_2 (rd t104 x9_4)).kind), .string ((rd_T47 l0_2 (rd t104 x9_4)).atom.pred), .slice A122_2 ((rd_T47 l0_2 (rd t104 x9_4)).atom.args).length c122_2, .string ((rd_T47 l0_2 (rd t104 x9_4)).op), .bool ((rd_T47 l0_2 (rd t104 x9_4)).l.isVar), .string ((rd_T47 l0_2 (rd t104 x9_4)).l.name), .bool ((rd_T47 l0_2 (rd t104 x9_4)).l.val.isSym), .string ((rd_T47 l0_2 (rd t104 x9_4)).l.val.sym), .int .i64 ((rd_T47 l0_2 (rd t104 x9_4)).l.val.n), .bool ((rd_T47 l0_2 (rd t104 x9_4)).r.isVar), .string ((rd_T47 l0_2 (rd t104 x9_4)).r.name), .bool ((rd_T47 l0_2 (rd t104 x9_4)).r.val.isSym), .string ((rd_T47 l0_2 (rd t104 x9_4)).r.val.sym), .int .i64 ((rd_T47 l0_2 (rd t104 x9_4)).r.val.n)] 47 (0, 0)) (by (with_reducible repeat (first | refine blk_drewN ?_ _ | refine blk_drew ?_ | refine blk_alloc ?_ _)); refine blk_put (cs := #[.int .i64 ((rd_T47 l0_2 (rd t104 x9_4)).kind), .string ((rd_T47 l0_2 (rd t104 x9_4)).atom.pred), .slice A122_2 ((rd_T47 l0_2 (rd t104 x9_4)).atom.args).length c122_2, .string ((rd_T47 l0_2 (rd t104 x9_4)).op), .bool ((rd_T47 l0_2 (rd t104 x9_4)).l.isVar), .string ((rd_T47 l0_2 (rd t104 x9_4)).l.name), .bool ((rd_T47 l0_2 (rd t104 x9_4)).l.val.isSym), .string ((rd_T47 l0_2 (rd t104 x9_4)).l.val.sym), .int .i64 ((rd_T47 l0_2 (rd t104 x9_4)).l.val.n), .bool ((rd_T47 l0_2 (rd t104 x9_4)).r.isVar), .string ((rd_T47 l0_2 (rd t104 x9_4)).r.name), .bool ((rd_T47 l0_2 (rd t104 x9_4)).r.val.isSym), .string ((rd_T47 l0_2 (rd t104 x9_4)).r.val.sym), .int .i64 0]) ?_ 13 _ rfl; (with_reducible repeat (first | refine blk_drewN ?_ _ | refine blk_drew ?_ | refine blk_alloc ?_ _)); refine blk_put (cs := #[.int .i64 ((rd_T47 l0_2 (rd t104 x9_4)).kind), .string ((rd_T47 l0_2 (rd t104 x9_4)).atom.pred), .slice A122_2 ((rd_T47 l0_2 (rd t104 x9_4)).atom.args).length c122_2, .string ((rd_T47 l0_2 (rd t104 x9_4)).op), .bool ((rd_T47 l0_2 (rd t104 x9_4)).l.isVar), .string ((rd_T47 l0_2 (rd t104 x9_4)).l.name), .bool ((rd_T47 l0_2 (rd t104 x9_4)).l.val.isSym), .string ((rd_T47 l0_2 (rd t104 x9_4)).l.val.sym), .int .i64 ((rd_T47 l0_2 (rd t104 x9_4)).l.val.n), .bool ((rd_T47 l0_2 (rd t104 x9_4)).r.isVar), .string ((rd_T47 l0_2 (rd t104 x9_4)).r.name), .bool ((rd_T47 l0_2 (rd t104 x9_4)).r.val.isSym), .string (⟨#[]⟩ : ByteArray), .int .i64 0]) ?_ 12 _ rfl; (with_reducible repeat (first | refine blk_drewN ?_ _ | refine blk_drew ?_ | refine blk_alloc ?_ _)); refine blk_put (cs := #[.int .i64 ((rd_T47 l0_2 (rd t104 x9_4)).kind), .string ((rd_T47 l0_2 (rd t104 x9_4)).atom.pred), .slice A122_2 ((rd_T47 l0_2 (rd t104 x9_4)).atom.args).length c122_2, .string ((rd_T47 l0_2 (rd t104 x9_4)).op), .bool ((rd_T47 l0_2 (rd t104 x9_4)).l.isVar), .string ((rd_T47 l0_2 (rd t104 x9_4)).l.name), .bool ((rd_T47 l0_2 (rd t104 x9_4)).l.val.isSym), .string ((rd_T47 l0_2 (rd t104 x9_4)).l.val.sym), .int .i64 ((rd_T47 l0_2 (rd t104 x9_4)).l.val.n), .bool ((rd_T47 l0_2 (rd t104 x9_4)).r.isVar), .string ((rd_T47 l0_2 (rd t104 x9_4)).r.name), .bool false, .string (⟨#[]⟩ : ByteArray), .int .i64 0]) ?_ 11 _ rfl; (with_reducible repeat (first | refine blk_drewN ?_ _ | refine blk_drew ?_ | refine blk_alloc ?_ _)); refine blk_put (cs := #[.int .i64 ((rd_T47 l0_2 (rd t104 x9_4)).kind), .string ((rd_T47 l0_2 (rd t104 x9_4)).atom.pred), .slice A122_2 ((rd_T47 l0_2 (rd t104 x9_4)).atom.args).length c122_2, .string ((rd_T47 l0_2 (rd t104 x9_4)).op), .bool ((rd_T47 l0_2 (rd t104 x9_4)).l.isVar), .string ((rd_T47 l0_2 (rd t104 x9_4)).l.name), .bool ((rd_T47 l0_2 (rd t104 x9_4)).l.val.isSym), .string ((rd_T47 l0_2 (rd t104 x9_4)).l.val.sym), .int .i64 ((rd_T47 l0_2 (rd t104 x9_4)).l.val.n), .bool ((rd_T47 l0_2 (rd t104 x9_4)).r.isVar), .string (⟨#[]⟩ : ByteArray), .bool false, .string (⟨#[]⟩ : ByteArray), .int .i64 0]) ?_ 10 _ rfl; (with_reducible repeat (first | refine blk_drewN ?_ _ | refine blk_drew ?_ | refine blk_alloc ?_ _)); refine blk_put (cs := #[.int .i64 ((rd_T47 l0_2 (rd t104 x9_4)).kind), .string ((rd_T47 l0_2 (rd t104 x9_4)).atom.pred), .slice A122_2 ((rd_T47 l0_2 (rd t104 x9_4)).atom.args).length c122_2, .string ((rd_T47 l0_2 (rd t104 x9_4)).op), .bool ((rd_T47 l0_2 (rd t104 x9_4)).l.isVar), .string ((rd_T47 l0_2 (rd t104 x9_4)).l.name), .bool ((rd_T47 l0_2 (rd t104 x9_4)).l.val.isSym), .string ((rd_T47 l0_2 (rd t104 x9_4)).l.val.sym), .int .i64 ((rd_T47 l0_2 (rd t104 x9_4)).l.val.n), .bool false, .string (⟨#[]⟩ : ByteArray), .bool false, .string (⟨#[]⟩ : ByteArray), .int .i64 0]) ?_ 9 _ rfl; (with_reducible repeat (first | refine blk_drewN ?_ _ | refine blk_drew ?_ | refine blk_alloc ?_ _)); refine blk_put (cs := #[.int .i64 ((rd_T47 l0_2 (rd t104 x9_4)).kind), .string ((rd_T47 l0_2 (rd t104 x9_4)).atom.pred), .slice A122_2 ((rd_T47 l0_2 (rd t104 x9_4)).atom.args).length c122_2, .string ((rd_T47 l0_2 (rd t104 x9_4)).op), .bool ((rd_T47 l0_2 (rd t104 x9_4)).l.isVar), .string ((rd_T47 l0_2 (rd t104 x9_4)).l.name), .bool ((rd_T47 l0_2 (rd t104 x9_4)).l.val.isSym), .string ((rd_T47 l0_2 (rd t104 x9_4)).l.val.sym), .int .i64 0, .bool false, .string (⟨#[]⟩ : ByteArray), .bool false, .string (⟨#[]⟩ : ByteArray), .int .i64 0]) ?_ 8 _ rfl; (with_reducible repeat (first | refine blk_drewN ?_ _ | refine blk_drew ?_ | refine blk_alloc ?_ _)); refine blk_put (cs := #[.int .i64 ((rd_T47 l0_2 (rd t104 x9_4)).kind), .string ((rd_T47 l0_2 (rd t104 x9_4)).atom.pred), .slice A122_2 ((rd_T47 l0_2 (rd t104 x9_4)).atom.args).length c122_2, .string ((rd_T47 l0_2 (rd t104 x9_4)).op), .bool ((rd_T47 l0_2 (rd t104 x9_4)).l.isVar), .string ((rd_T47 l0_2 (rd t104 x9_4)).l.name), .bool ((rd_T47 l0_2 (rd t104 x9_4)).l.val.isSym), .string (⟨#[]⟩ : ByteArray), .int .i64 0, .bool false, .string (⟨#[]⟩ : ByteArray), .bool false, .string (⟨#[]⟩ : ByteArray), .int .i64 0]) ?_ 7 _ rfl; (with_reducible repeat (first | refine blk_drewN ?_ _ | refine blk_drew ?_ | refine blk_alloc ?_ _)); refine blk_put (cs := #[.int .i64 ((rd_T47 l0_2 (rd t104 x9_4)).kind), .string ((rd_T47 l0_2 (rd t104 x9_4)).atom.pred), .slice A122_2 ((rd_T47 l0_2 (rd t104 x9_4)).atom.args).length c122_2, .string ((rd_T47 l0_2 (rd t104 x9_4)).op), .bool ((rd_T47 l0_2 (rd t104 x9_4)).l.isVar), .string ((rd_T47 l0_2 (rd t104 x9_4)).l.name), .bool false, .string (⟨#[]⟩ : ByteArray), .int .i64 0, .bool false, .string (⟨#[]⟩ : ByteArray), .bool false, .string (⟨#[]⟩ : ByteArray), .int .i64 0]) ?_ 6 _ rfl; (with_reducible repeat (first | refine blk_drewN ?_ _ | refine blk_drew ?_ | refine blk_alloc ?_ _)); refine blk_put (cs := #[.int .i64 ((rd_T47 l0_2 (rd t104 x9_4)).kind), .string ((rd_T47 l0_2 (rd t104 x9_4)).atom.pred), .slice A122_2 ((rd_T47 l0_2 (rd t104 x9_4)).atom.args).length c122_2, .string ((rd_T47 l0_2 (rd t104 x9_4)).op), .bool ((rd_T47 l0_2 (rd t104 x9_4)).l.isVar), .string (⟨#[]⟩ : ByteArray), .bool false, .string (⟨#[]⟩ : ByteArray), .int .i64 0, .bool false, .string (⟨#[]⟩ : ByteArray), .bool false, .string (⟨#[]⟩ : ByteArray), .int .i64 0]) ?_ 5 _ rfl; (with_reducible repeat (first | refine blk_drewN ?_ _ | refine blk_drew ?_ | refine blk_alloc ?_ _)); refine blk_put (cs := #[.int .i64 ((rd_T47 l0_2 (rd t104 x9_4)).kind), .string ((rd_T47 l0_2 (rd t104 x9_4)).atom.pred), .slice A122_2 ((rd_T47 l0_2 (rd t104 x9_4)).atom.args).length c122_2, .string ((rd_T47 l0_2 (rd t104 x9_4)).op), .bool false, .string (⟨#[]⟩ : ByteArray), .bool false, .string (⟨#[]⟩ : ByteArray), .int .i64 0, .bool false, .string (⟨#[]⟩ : ByteArray), .bool false, .string (⟨#[]⟩ : ByteArray), .int .i64 0]) ?_ 4 _ rfl; (with_reducible repeat (first | refine blk_drewN ?_ _ | refine blk_drew ?_ | refine blk_alloc ?_ _)); refine blk_put (cs := #[.int .i64 ((rd_T47 l0_2 (rd t104 x9_4)).kind), .string ((rd_T47 l0_2 (rd t104 x9_4)).atom.pred), .slice A122_2 ((rd_T47 l0_2 (rd t104 x9_4)).atom.args).length c122_2, .string (⟨#[]⟩ : ByteArray), .bool false, .string (⟨#[]⟩ : ByteArray), .bool false, .string (⟨#[]⟩ : ByteArray), .int .i64 0, .bool false, .string (⟨#[]⟩ : ByteArray), .bool false, .string (⟨#[]⟩ : ByteArray), .int .i64 0]) ?_ 3 _ rfl; (with_reducible repeat (first | refine blk_drewN ?_ _ | refine blk_drew ?_ | refine blk_alloc ?_ _)); refine blk_put (cs := #[.int .i64 ((rd_T47 l0_2 (rd t104 x9_4)).kind), .string ((rd_T47 l0_2 (rd t104 x9_4)).atom.pred), .slice none 0 0, .string (⟨#[]⟩ : ByteArray), .bool false, .string (⟨#[]⟩ : ByteArray), .bool false, .string (⟨#[]⟩ : ByteArray), .int .i64 0, .bool false, .string (⟨#[]⟩ : ByteArray), .bool false, .string (⟨#[]⟩ : ByteArray), .int .i64 0]) ?_ 2 _ rfl; (with_reducible repeat (first | refine blk_drewN ?_ _ | refine blk_drew ?_ | refine blk_alloc ?_ _)); refine blk_put (cs := #[.int .i64 ((rd_T47 l0_2 (rd t104 x9_4)).kind), .string (⟨#[]⟩ : ByteArray), .slice none 0 0, .string (⟨#[]⟩ : ByteArray), .bool false, .string (⟨#[]⟩ : ByteArray), .bool false, .string (⟨#[]⟩ : ByteArray), .int .i64 0, .bool false, .string (⟨#[]⟩ : ByteArray), .bool false, .string (⟨#[]⟩ : ByteArray), .int .i64 0]) ?_ 1 _ rfl; (with_reducible repeat (first | refine blk_drewN ?_ _ | refine blk_drew ?_ | refine blk_alloc ?_ _)); refine blk_put (cs := #[.int .i64 0, .string (⟨#[]⟩ : ByteArray), .slice none 0 0, .string (⟨#[]⟩ : ByteArray), .bool false, .string (⟨#[]⟩ : ByteArray), .bool false, .string (⟨#[]⟩ : ByteArray), .int .i64 0, .bool false, .string (⟨#[]⟩ : ByteArray), .bool false, .string (⟨#[]⟩ : ByteArray), .int .i64 0]) ?_ 0 _ rfl; (with_reducible repeat (first | refine blk_drewN ?_ _ | refine blk_drew ?_ | refine blk_alloc ?_ _)); exact BK123.out) k_ hn_))⟩)) (below_size (by repeat (first | (with_reducible first | exact HB.out | apply below_alloc | apply pw_below_drewN | apply below_drew1 | refine below_set ?_ GE101.out | refine below_set ?_ GE112.out | refine below_set ?_ GE123.out) | exact HB.out)))); have n3_ := Aside0.mk (blk_below (g := gb101) (o := .cells #[.string a0_0, .slice A0_1 l0_1.length c0_1, .slice (some ad111) l0_2.length c0_2] 27 (0, 0)) (by repeat (first | (with_reducible first | exact BK101.out | refine blk_drewN ?_ _ | refine blk_drew ?_ | refine blk_alloc ?_ _) | refine blk_far ?_ NB101_123.out _ | exact BK101.out)) hb); have n4_ := Aside0.mk (blk_below (g := gb112) (o := .cells #[.int .i64 ((rd_T47 l0_2 (rd t104 x7_2)).kind), .string ((rd_T47 l0_2 (rd t104 x7_2)).atom.pred), .slice A111_2 ((rd_T47 l0_2 (rd t104 x7_2)).atom.args).length c111_2, .string ((rd_T47 l0_2 (rd t104 x7_2)).op), .bool ((rd_T47 l0_2 (rd t104 x7_2)).l.isVar), .string ((rd_T47 l0_2 (rd t104 x7_2)).l.name), .bool ((rd_T47 l0_2 (rd t104 x7_2)).l.val.isSym), .string ((rd_T47 l0_2 (rd t104 x7_2)).l.val.sym), .int .i64 ((rd_T47 l0_2 (rd t104 x7_2)).l.val.n), .bool ((rd_T47 l0_2 (rd t104 x7_2)).r.isVar), .string ((rd_T47 l0_2 (rd t104 x7_2)).r.name), .bool ((rd_T47 l0_2 (rd t104 x7_2)).r.val.isSym), .string ((rd_T47 l0_2 (rd t104 x7_2)).r.val.sym), .int .i64 ((rd_T47 l0_2 (rd t104 x7_2)).r.val.n)] 47 (0, 0)) (by repeat (first | (with_reducible first | exact BK112.out | refine blk_drewN ?_ _ | refine blk_drew ?_ | refine blk_alloc ?_ _) | refine blk_far ?_ NB112_123.out _ | exact BK112.out)) hb); have n5_ := Aside0.mk (blk_below (g := gb123) (o := .cells #[.int .i64 ((rd_T47 l0_2 (rd t104 x9_4)).kind), .string ((rd_T47 l0_2 (rd t104 x9_4)).atom.pred), .slice A122_2 ((rd_T47 l0_2 (rd t104 x9_4)).atom.args).length c122_2, .string ((rd_T47 l0_2 (rd t104 x9_4)).op), .bool ((rd_T47 l0_2 (rd t104 x9_4)).l.isVar), .string ((rd_T47 l0_2 (rd t104 x9_4)).l.name), .bool ((rd_T47 l0_2 (rd t104 x9_4)).l.val.isSym), .string ((rd_T47 l0_2 (rd t104 x9_4)).l.val.sym), .int .i64 ((rd_T47 l0_2 (rd t104 x9_4)).l.val.n), .bool ((rd_T47 l0_2 (rd t104 x9_4)).r.isVar), .string ((rd_T47 l0_2 (rd t104 x9_4)).r.name), .bool ((rd_T47 l0_2 (rd t104 x9_4)).r.val.isSym), .string ((rd_T47 l0_2 (rd t104 x9_4)).r.val.sym), .int .i64 ((rd_T47 l0_2 (rd t104 x9_4)).r.val.n)] 47 (0, 0)) (by (with_reducible repeat (first | refine blk_drewN ?_ _ | refine blk_drew ?_ | refine blk_alloc ?_ _)); refine blk_put (cs := #[.int .i64 ((rd_T47 l0_2 (rd t104 x9_4)).kind), .string ((rd_T47 l0_2 (rd t104 x9_4)).atom.pred), .slice A122_2 ((rd_T47 l0_2 (rd t104 x9_4)).atom.args).length c122_2, .string ((rd_T47 l0_2 (rd t104 x9_4)).op), .bool ((rd_T47 l0_2 (rd t104 x9_4)).l.isVar), .string ((rd_T47 l0_2 (rd t104 x9_4)).l.name), .bool ((rd_T47 l0_2 (rd t104 x9_4)).l.val.isSym), .string ((rd_T47 l0_2 (rd t104 x9_4)).l.val.sym), .int .i64 ((rd_T47 l0_2 (rd t104 x9_4)).l.val.n), .bool ((rd_T47 l0_2 (rd t104 x9_4)).r.isVar), .string ((rd_T47 l0_2 (rd t104 x9_4)).r.name), .bool ((rd_T47 l0_2 (rd t104 x9_4)).r.val.isSym), .string ((rd_T47 l0_2 (rd t104 x9_4)).r.val.sym), .int .i64 0]) ?_ 13 _ rfl; (with_reducible repeat (first | refine blk_drewN ?_ _ | refine blk_drew ?_ | refine blk_alloc ?_ _)); refine blk_put (cs := #[.int .i64 ((rd_T47 l0_2 (rd t104 x9_4)).kind), .string ((rd_T47 l0_2 (rd t104 x9_4)).atom.pred), .slice A122_2 ((rd_T47 l0_2 (rd t104 x9_4)).atom.args).length c122_2, .string ((rd_T47 l0_2 (rd t104 x9_4)).op), .bool ((rd_T47 l0_2 (rd t104 x9_4)).l.isVar), .string ((rd_T47 l0_2 (rd t104 x9_4)).l.name), .bool ((rd_T47 l0_2 (rd t104 x9_4)).l.val.isSym), .string ((rd_T47 l0_2 (rd t104 x9_4)).l.val.sym), .int .i64 ((rd_T47 l0_2 (rd t104 x9_4)).l.val.n), .bool ((rd_T47 l0_2 (rd t104 x9_4)).r.isVar), .string ((rd_T47 l0_2 (rd t104 x9_4)).r.name), .bool ((rd_T47 l0_2 (rd t104 x9_4)).r.val.isSym), .string (⟨#[]⟩ : ByteArray), .int .i64 0]) ?_ 12 _ rfl; (with_reducible repeat (first | refine blk_drewN ?_ _ | refine blk_drew ?_ | refine blk_alloc ?_ _)); refine blk_put (cs := #[.int .i64 ((rd_T47 l0_2 (rd t104 x9_4)).kind), .string ((rd_T47 l0_2 (rd t104 x9_4)).atom.pred), .slice A122_2 ((rd_T47 l0_2 (rd t104 x9_4)).atom.args).length c122_2, .string ((rd_T47 l0_2 (rd t104 x9_4)).op), .bool ((rd_T47 l0_2 (rd t104 x9_4)).l.isVar), .string ((rd_T47 l0_2 (rd t104 x9_4)).l.name), .bool ((rd_T47 l0_2 (rd t104 x9_4)).l.val.isSym), .string ((rd_T47 l0_2 (rd t104 x9_4)).l.val.sym), .int .i64 ((rd_T47 l0_2 (rd t104 x9_4)).l.val.n), .bool ((rd_T47 l0_2 (rd t104 x9_4)).r.isVar), .string ((rd_T47 l0_2 (rd t104 x9_4)).r.name), .bool false, .string (⟨#[]⟩ : ByteArray), .int .i64 0]) ?_ 11 _ rfl; (with_reducible repeat (first | refine blk_drewN ?_ _ | refine blk_drew ?_ | refine blk_alloc ?_ _)); refine blk_put (cs := #[.int .i64 ((rd_T47 l0_2 (rd t104 x9_4)).kind), .string ((rd_T47 l0_2 (rd t104 x9_4)).atom.pred), .slice A122_2 ((rd_T47 l0_2 (rd t104 x9_4)).atom.args).length c122_2, .string ((rd_T47 l0_2 (rd t104 x9_4)).op), .bool ((rd_T47 l0_2 (rd t104 x9_4)).l.isVar), .string ((rd_T47 l0_2 (rd t104 x9_4)).l.name), .bool ((rd_T47 l0_2 (rd t104 x9_4)).l.val.isSym), .string ((rd_T47 l0_2 (rd t104 x9_4)).l.val.sym), .int .i64 ((rd_T47 l0_2 (rd t104 x9_4)).l.val.n), .bool ((rd_T47 l0_2 (rd t104 x9_4)).r.isVar), .string (⟨#[]⟩ : ByteArray), .bool false, .string (⟨#[]⟩ : ByteArray), .int .i64 0]) ?_ 10 _ rfl; (with_reducible repeat (first | refine blk_drewN ?_ _ | refine blk_drew ?_ | refine blk_alloc ?_ _)); refine blk_put (cs := #[.int .i64 ((rd_T47 l0_2 (rd t104 x9_4)).kind), .string ((rd_T47 l0_2 (rd t104 x9_4)).atom.pred), .slice A122_2 ((rd_T47 l0_2 (rd t104 x9_4)).atom.args).length c122_2, .string ((rd_T47 l0_2 (rd t104 x9_4)).op), .bool ((rd_T47 l0_2 (rd t104 x9_4)).l.isVar), .string ((rd_T47 l0_2 (rd t104 x9_4)).l.name), .bool ((rd_T47 l0_2 (rd t104 x9_4)).l.val.isSym), .string ((rd_T47 l0_2 (rd t104 x9_4)).l.val.sym), .int .i64 ((rd_T47 l0_2 (rd t104 x9_4)).l.val.n), .bool false, .string (⟨#[]⟩ : ByteArray), .bool false, .string (⟨#[]⟩ : ByteArray), .int .i64 0]) ?_ 9 _ rfl; (with_reducible repeat (first | refine blk_drewN ?_ _ | refine blk_drew ?_ | refine blk_alloc ?_ _)); refine blk_put (cs := #[.int .i64 ((rd_T47 l0_2 (rd t104 x9_4)).kind), .string ((rd_T47 l0_2 (rd t104 x9_4)).atom.pred), .slice A122_2 ((rd_T47 l0_2 (rd t104 x9_4)).atom.args).length c122_2, .string ((rd_T47 l0_2 (rd t104 x9_4)).op), .bool ((rd_T47 l0_2 (rd t104 x9_4)).l.isVar), .string ((rd_T47 l0_2 (rd t104 x9_4)).l.name), .bool ((rd_T47 l0_2 (rd t104 x9_4)).l.val.isSym), .string ((rd_T47 l0_2 (rd t104 x9_4)).l.val.sym), .int .i64 0, .bool false, .string (⟨#[]⟩ : ByteArray), .bool false, .string (⟨#[]⟩ : ByteArray), .int .i64 0]) ?_ 8 _ rfl; (with_reducible repeat (first | refine blk_drewN ?_ _ | refine blk_drew ?_ | refine blk_alloc ?_ _)); refine blk_put (cs := #[.int .i64 ((rd_T47 l0_2 (rd t104 x9_4)).kind), .string ((rd_T47 l0_2 (rd t104 x9_4)).atom.pred), .slice A122_2 ((rd_T47 l0_2 (rd t104 x9_4)).atom.args).length c122_2, .string ((rd_T47 l0_2 (rd t104 x9_4)).op), .bool ((rd_T47 l0_2 (rd t104 x9_4)).l.isVar), .string ((rd_T47 l0_2 (rd t104 x9_4)).l.name), .bool ((rd_T47 l0_2 (rd t104 x9_4)).l.val.isSym), .string (⟨#[]⟩ : ByteArray), .int .i64 0, .bool false, .string (⟨#[]⟩ : ByteArray), .bool false, .string (⟨#[]⟩ : ByteArray), .int .i64 0]) ?_ 7 _ rfl; (with_reducible repeat (first | refine blk_drewN ?_ _ | refine blk_drew ?_ | refine blk_alloc ?_ _)); refine blk_put (cs := #[.int .i64 ((rd_T47 l0_2 (rd t104 x9_4)).kind), .string ((rd_T47 l0_2 (rd t104 x9_4)).atom.pred), .slice A122_2 ((rd_T47 l0_2 (rd t104 x9_4)).atom.args).length c122_2, .string ((rd_T47 l0_2 (rd t104 x9_4)).op), .bool ((rd_T47 l0_2 (rd t104 x9_4)).l.isVar), .string ((rd_T47 l0_2 (rd t104 x9_4)).l.name), .bool false, .string (⟨#[]⟩ : ByteArray), .int .i64 0, .bool false, .string (⟨#[]⟩ : ByteArray), .bool false, .string (⟨#[]⟩ : ByteArray), .int .i64 0]) ?_ 6 _ rfl; (with_reducible repeat (first | refine blk_drewN ?_ _ | refine blk_drew ?_ | refine blk_alloc ?_ _)); refine blk_put (cs := #[.int .i64 ((rd_T47 l0_2 (rd t104 x9_4)).kind), .string ((rd_T47 l0_2 (rd t104 x9_4)).atom.pred), .slice A122_2 ((rd_T47 l0_2 (rd t104 x9_4)).atom.args).length c122_2, .string ((rd_T47 l0_2 (rd t104 x9_4)).op), .bool ((rd_T47 l0_2 (rd t104 x9_4)).l.isVar), .string (⟨#[]⟩ : ByteArray), .bool false, .string (⟨#[]⟩ : ByteArray), .int .i64 0, .bool false, .string (⟨#[]⟩ : ByteArray), .bool false, .string (⟨#[]⟩ : ByteArray), .int .i64 0]) ?_ 5 _ rfl; (with_reducible repeat (first | refine blk_drewN ?_ _ | refine blk_drew ?_ | refine blk_alloc ?_ _)); refine blk_put (cs := #[.int .i64 ((rd_T47 l0_2 (rd t104 x9_4)).kind), .string ((rd_T47 l0_2 (rd t104 x9_4)).atom.pred), .slice A122_2 ((rd_T47 l0_2 (rd t104 x9_4)).atom.args).length c122_2, .string ((rd_T47 l0_2 (rd t104 x9_4)).op), .bool false, .string (⟨#[]⟩ : ByteArray), .bool false, .string (⟨#[]⟩ : ByteArray), .int .i64 0, .bool false, .string (⟨#[]⟩ : ByteArray), .bool false, .string (⟨#[]⟩ : ByteArray), .int .i64 0]) ?_ 4 _ rfl; (with_reducible repeat (first | refine blk_drewN ?_ _ | refine blk_drew ?_ | refine blk_alloc ?_ _)); refine blk_put (cs := #[.int .i64 ((rd_T47 l0_2 (rd t104 x9_4)).kind), .string ((rd_T47 l0_2 (rd t104 x9_4)).atom.pred), .slice A122_2 ((rd_T47 l0_2 (rd t104 x9_4)).atom.args).length c122_2, .string (⟨#[]⟩ : ByteArray), .bool false, .string (⟨#[]⟩ : ByteArray), .bool false, .string (⟨#[]⟩ : ByteArray), .int .i64 0, .bool false, .string (⟨#[]⟩ : ByteArray), .bool false, .string (⟨#[]⟩ : ByteArray), .int .i64 0]) ?_ 3 _ rfl; (with_reducible repeat (first | refine blk_drewN ?_ _ | refine blk_drew ?_ | refine blk_alloc ?_ _)); refine blk_put (cs := #[.int .i64 ((rd_T47 l0_2 (rd t104 x9_4)).kind), .string ((rd_T47 l0_2 (rd t104 x9_4)).atom.pred), .slice none 0 0, .string (⟨#[]⟩ : ByteArray), .bool false, .string (⟨#[]⟩ : ByteArray), .bool false, .string (⟨#[]⟩ : ByteArray), .int .i64 0, .bool false, .string (⟨#[]⟩ : ByteArray), .bool false, .string (⟨#[]⟩ : ByteArray), .int .i64 0]) ?_ 2 _ rfl; (with_reducible repeat (first | refine blk_drewN ?_ _ | refine blk_drew ?_ | refine blk_alloc ?_ _)); refine blk_put (cs := #[.int .i64 ((rd_T47 l0_2 (rd t104 x9_4)).kind), .string (⟨#[]⟩ : ByteArray), .slice none 0 0, .string (⟨#[]⟩ : ByteArray), .bool false, .string (⟨#[]⟩ : ByteArray), .bool false, .string (⟨#[]⟩ : ByteArray), .int .i64 0, .bool false, .string (⟨#[]⟩ : ByteArray), .bool false, .string (⟨#[]⟩ : ByteArray), .int .i64 0]) ?_ 1 _ rfl; (with_reducible repeat (first | refine blk_drewN ?_ _ | refine blk_drew ?_ | refine blk_alloc ?_ _)); refine blk_put (cs := #[.int .i64 0, .string (⟨#[]⟩ : ByteArray), .slice none 0 0, .string (⟨#[]⟩ : ByteArray), .bool false, .string (⟨#[]⟩ : ByteArray), .bool false, .string (⟨#[]⟩ : ByteArray), .int .i64 0, .bool false, .string (⟨#[]⟩ : ByteArray), .bool false, .string (⟨#[]⟩ : ByteArray), .int .i64 0]) ?_ 0 _ rfl; (with_reducible repeat (first | refine blk_drewN ?_ _ | refine blk_drew ?_ | refine blk_alloc ?_ _)); exact BK123.out) hb); have n6_ := Aside0.mk (below_step (by repeat (first | (with_reducible first | exact HB.out | apply below_alloc | apply pw_below_drewN | apply below_drew1 | refine below_set ?_ GE101.out | refine below_set ?_ GE112.out | refine below_set ?_ GE123.out) | exact HB.out)) hb); clear HO_4; clear HO_6; clear BK101; clear BK112; clear BK123; clear HB; have HO_4 := n0_; have HO_6 := n1_; have HO126 := n2_; have BK101 := n3_; have BK112 := n4_; have BK123 := n5_; have HB := n6_; clear n0_ n1_ n2_ n3_ n4_ n5_ n6_; (try clear hb); (try clear hb2); (try clear hk); (try clear hi); (try clear ho0); obtain ⟨Ao87, co87, eo87⟩ := Kd.V_slice HO126.out; subst eo87; obtain ⟨Ao88, co88, eo88⟩ := Kd.R_slice HO_6.out; subst eo88) | (go_at_call 23; (with_reducible refine (lambrequinref13_Known.calls kj49 _ _ t124 _ _ x6_2 t127 _ ?side1 ?side2 ?side3 ?side4 A82.out).mono ?_); (case side1 => repeat (first | exact (Kd.V_reads' HO126.out).2.2 | (with_reducible refine Kd.C_alloc ?_ _) | (with_reducible refine Kd.C_drewN ?_ _) | (with_reducible refine Kd.C_drew ?_))); (case side2 => exact (Kd.V_reads' HO126.out).2.1); (case side3 => repeat (first | exact (Kd.R_reads' HO_6.out).2.2 | (with_reducible refine Kd.C_alloc ?_ _) | (with_reducible refine Kd.C_drewN ?_ _) | (with_reducible refine Kd.C_drew ?_))); (case side4 => exact (Kd.R_reads' HO_6.out).2.1); rintro e w' ⟨rfl, ⟨nd, rfl⟩⟩))
                            go_meet
                            case rel => exact ⟨_, (t127), (by first | rfl | (simp; done) | (simp [*]; done)), H', ⟨by have := HJ5.out; have := HK2.out; have := HJ18.out; have := HK4.out; have := HJ49.out; first | omega | exact Nat.le_refl _⟩, ⟨by (with_reducible repeat (first | apply Kd.R_alloc | apply Kd.R_drewN | apply Kd.R_drew)); exact HO_4.out⟩, ⟨by (with_reducible repeat (first | apply Kd.R_alloc | apply Kd.R_drewN | apply Kd.R_drew)); exact HO_6.out⟩, ⟨by (with_reducible repeat (first | refine blk_drewN ?_ _ | refine blk_drew ?_ | refine blk_alloc ?_ _)); exact BK101.out⟩, ⟨by (with_reducible repeat (first | refine blk_drewN ?_ _ | refine blk_drew ?_ | refine blk_alloc ?_ _)); exact BK112.out⟩, ⟨by (with_reducible repeat (first | refine blk_drewN ?_ _ | refine blk_drew ?_ | refine blk_alloc ?_ _)); exact BK123.out⟩, ⟨by repeat (first | (with_reducible first | exact HB.out | apply below_alloc | apply pw_below_drewN | apply below_drew1 | refine below_set ?_ GE101.out | refine below_set ?_ GE112.out | refine below_set ?_ GE123.out) | exact HB.out)⟩⟩
                          case rest =>
                           clear HC60
                           try clear c1
                           try clear p1
                           try clear q1
                           try clear hx1
                           try clear c2
                           try clear p2
                           try clear c3
                           try clear c4
                           try clear c5
                           try clear p6
                           try clear c7
                           try clear c8
                           try clear p10
                           try clear q10
                           try clear hx10
                           try clear c11
                           try clear p11
                           try clear q11
                           try clear hx11
                           try clear c12
                           try clear p12
                           try clear q12
                           try clear hx12
                           try clear c13
                           try clear c13b0
                           try clear c13b1
                           try clear c15
                           try clear c16
                           try clear c17
                           try clear c18
                           try clear c18b0
                           try clear c21
                           try clear c21b0
                           try clear c22
                           try clear c22b0
                           try clear c25
                           try clear c26
                           try clear c26b0
                           try clear c27
                           try clear c27b0
                           try clear c28
                           try clear c28b0
                           try clear c29
                           try clear c29b0
                           try clear c30
                           try clear c30b0
                           try clear c30b1
                           try clear c47
                           try clear c49
                           try clear c49b0
                           try clear c51
                           try clear c51b0
                           try clear c52
                           try clear c52b0
                           try clear c55
                           try clear c56
                           try clear c56b0
                           try clear c57
                           try clear c57b0
                           try clear c58
                           try clear c58b0
                           try clear c59
                           try clear c59b0
                           try clear c77
                           try clear c77b0
                           try clear c77b1
                           try clear c78
                           try clear c79
                           try clear c83
                           try clear c84
                           try clear hcz11_0
                           try clear hcz11_1
                           try clear hcz11_2
                           try clear hcz15_0
                           try clear hcz15_1
                           try clear hcz15_2
                           try clear hcz48_0
                           try clear hcz48_1
                           try clear hcz48_10
                           try clear hcz48_11
                           try clear hcz48_12
                           try clear hcz48_13
                           try clear hcz48_2
                           try clear hcz48_3
                           try clear hcz48_4
                           try clear hcz48_5
                           try clear hcz48_6
                           try clear hcz48_7
                           try clear hcz48_8
                           try clear hcz48_9
                           try clear hcz80_0
                           try clear hcz80_1
                           try clear hcz80_10
                           try clear hcz80_11
                           try clear hcz80_12
                           try clear hcz80_13
                           try clear hcz80_2
                           try clear hcz80_3
                           try clear hcz80_4
                           try clear hcz80_5
                           try clear hcz80_6
                           try clear hcz80_7
                           try clear hcz80_8
                           try clear hcz80_9
                           try clear hcz85_0
                           try clear hcz85_1
                           try clear hcz85_10
                           try clear hcz85_11
                           try clear hcz85_12
                           try clear hcz85_13
                           try clear hcz85_2
                           try clear hcz85_3
                           try clear hcz85_4
                           try clear hcz85_5
                           try clear hcz85_6
                           try clear hcz85_7
                           try clear hcz85_8
                           try clear hcz85_9
                           try clear hcz9_0
                           try clear hcz9_1
                           try clear hcz9_2
                           try clear hfz11_0
                           try clear hfz11_1
                           try clear hfz11_2
                           try clear hfz15_0
                           try clear hfz15_1
                           try clear hfz15_2
                           try clear hfz48_0
                           try clear hfz48_1
                           try clear hfz48_10
                           try clear hfz48_11
                           try clear hfz48_12
                           try clear hfz48_13
                           try clear hfz48_2
                           try clear hfz48_3
                           try clear hfz48_4
                           try clear hfz48_5
                           try clear hfz48_6
                           try clear hfz48_7
                           try clear hfz48_8
                           try clear hfz48_9
                           try clear hfz80_0
                           try clear hfz80_1
                           try clear hfz80_10
                           try clear hfz80_11
                           try clear hfz80_12
                           try clear hfz80_13
                           try clear hfz80_2
                           try clear hfz80_3
                           try clear hfz80_4
                           try clear hfz80_5
                           try clear hfz80_6
                           try clear hfz80_7
                           try clear hfz80_8
                           try clear hfz80_9
                           try clear hfz85_0
                           try clear hfz85_1
                           try clear hfz85_10
                           try clear hfz85_11
                           try clear hfz85_12
                           try clear hfz85_13
                           try clear hfz85_2
                           try clear hfz85_3
                           try clear hfz85_4
                           try clear hfz85_5
                           try clear hfz85_6
                           try clear hfz85_7
                           try clear hfz85_8
                           try clear hfz85_9
                           try clear hfz9_0
                           try clear hfz9_1
                           try clear hfz9_2
                           try clear hx108_0
                           try clear hx109_0
                           try clear hx110_0
                           try clear hx111_0
                           try clear hx111_1
                           try clear hx111_10
                           try clear hx111_11
                           try clear hx111_12
                           try clear hx111_13
                           try clear hx111_2
                           try clear hx111_3
                           try clear hx111_4
                           try clear hx111_5
                           try clear hx111_6
                           try clear hx111_7
                           try clear hx111_8
                           try clear hx111_9
                           try clear hx119_0
                           try clear hx120_0
                           try clear hx121_0
                           try clear hx122_0
                           try clear hx122_1
                           try clear hx122_10
                           try clear hx122_11
                           try clear hx122_12
                           try clear hx122_13
                           try clear hx122_2
                           try clear hx122_3
                           try clear hx122_4
                           try clear hx122_5
                           try clear hx122_6
                           try clear hx122_7
                           try clear hx122_8
                           try clear hx122_9
                           try clear p1
                           try clear p10
                           try clear p108
                           try clear p109
                           try clear p11
                           try clear p110
                           try clear p111
                           try clear p119
                           try clear p12
                           try clear p120
                           try clear p121
                           try clear p122
                           try clear p2
                           try clear p6
                           try clear q1
                           try clear q10
                           try clear q108
                           try clear q109
                           try clear q11
                           try clear q110
                           try clear q111
                           try clear q119
                           try clear q12
                           try clear q120
                           try clear q121
                           try clear q122
                           obtain ⟨kq, x107_59, rfl, HA, HJ59, HO_4, HO_6, BK101, BK112, BK123, HB⟩ := hcut
                           cases kq with
                           | zero => exact absurd HA.out (by simp [lambrequinlaw13_PlanEarly.j5])
                           | succ kj59 =>
                            have H := HA.out
                            clear HA
                            simp only [lambrequinlaw13_PlanEarly.j5] at H
                            by_cases c89 : x107_59 = true
                            ·subst c89
                             have H1 : (some false) = some r := by rw [if_pos rfl] at H; exact H
                             clear H
                             have H := H1
                             clear H1
                             obtain rfl := Option.some.inj H
                             go_wp2
                             go_ret
                             exact ⟨by first | rfl | (simp [errW_none, errW_some] <;> rfl) | (simp [*, errW_none, errW_some] <;> rfl), by repeat (first | (with_reducible first | exact HB.out | apply below_alloc | apply pw_below_drewN | apply below_drew1 | refine below_set ?_ GE101.out | refine below_set ?_ GE112.out | refine below_set ?_ GE123.out) | exact HB.out)⟩
                            ·replace c89 := Bool.eq_false_iff.mpr c89
                             subst c89
                             have H1 : (lambrequinlaw13_PlanEarly.l1 kj59 t102 t104 x6_2 x7_2 (wrap64 (x9_4 + 1)) a0_0 l0_1 l0_2 ((rd_T47 l0_2 (rd t104 x7_2)).kind) ((rd_T47 l0_2 (rd t104 x7_2)).atom.pred) ((rd_T47 l0_2 (rd t104 x7_2)).atom.args) ((rd_T47 l0_2 (rd t104 x7_2)).op) ((rd_T47 l0_2 (rd t104 x7_2)).l.isVar) ((rd_T47 l0_2 (rd t104 x7_2)).l.name) ((rd_T47 l0_2 (rd t104 x7_2)).l.val.isSym) ((rd_T47 l0_2 (rd t104 x7_2)).l.val.sym) ((rd_T47 l0_2 (rd t104 x7_2)).l.val.n) ((rd_T47 l0_2 (rd t104 x7_2)).r.isVar) ((rd_T47 l0_2 (rd t104 x7_2)).r.name) ((rd_T47 l0_2 (rd t104 x7_2)).r.val.isSym) ((rd_T47 l0_2 (rd t104 x7_2)).r.val.sym) ((rd_T47 l0_2 (rd t104 x7_2)).r.val.n)) = some r := by rw [if_neg (show ¬ (false = true) by decide)] at H; exact H
                             clear H
                             have H := H1
                             clear H1
                             have H' := Aside0.mk H
                             clear H
                             go_wp2
                             go_roundg kj59
                             case measure => have := HJ5.out; have := HK2.out; have := HJ18.out; have := HK4.out; have := HJ49.out; have := HJ59.out; omega
                             case rel => exact ⟨(wrap64 (x9_4 + 1)), (by first | rfl | (simp; done) | (simp [*]; done)), H', ⟨by have := HJ5.out; have := HK2.out; have := HJ18.out; have := HK4.out; have := HJ49.out; have := HJ59.out; omega⟩, ⟨by (with_reducible repeat (first | apply Kd.R_alloc | apply Kd.R_drewN | apply Kd.R_drew)); exact HO_4.out⟩, ⟨by (with_reducible repeat (first | apply Kd.R_alloc | apply Kd.R_drewN | apply Kd.R_drew)); exact HO_6.out⟩, ⟨by (with_reducible repeat (first | refine blk_drewN ?_ _ | refine blk_drew ?_ | refine blk_alloc ?_ _)); exact BK101.out⟩, ⟨by (with_reducible repeat (first | refine blk_drewN ?_ _ | refine blk_drew ?_ | refine blk_alloc ?_ _)); exact BK112.out⟩, ⟨by repeat (first | (with_reducible first | exact HB.out | apply below_alloc | apply pw_below_drewN | apply below_drew1 | refine below_set ?_ GE101.out | refine below_set ?_ GE112.out | refine below_set ?_ GE123.out) | exact HB.out)⟩⟩
                         ·rw [if_neg c59] at H
                          exact absurd H (by simp)
                        ·rw [if_neg c58] at H
                         exact absurd H (by simp)
                       ·rw [if_neg c57] at H
                        exact absurd H (by simp)
                      ·rw [if_neg c56] at H
                       exact absurd H (by simp)
                  ·rw [if_neg c49] at H
                   have c49b0 : decide (x9_4 < (t104.length : Int)) = false := decide_eq_false c49
                   clear c49
                   replace H := Option.bind_eq_some_iff.mp H
                   obtain ⟨t113, A900, H⟩ := H
                   replace H : (if x6_2.length + t113.length < 8796093022208 then (lambrequinlaw13_PlanEarly.l0 k4 t102 t104 (x6_2 ++ t113) (wrap64 (x7_2 + 1)) a0_0 l0_1 l0_2) else (none)) = some r := H
                   have A90 := Aside0.mk A900
                   clear A900
                   by_cases c91 : x6_2.length + t113.length < 8796093022208
                   ·rw [if_pos c91] at H
                    have LMc91 := Aside0.mk c91
                    clear c91
                    obtain ⟨y116, hy116⟩ : ∃ y_ : List ByteArray, y_ = (x6_2 ++ t113) := ⟨_, rfl⟩
                    replace H : (lambrequinlaw13_PlanEarly.l0 k4 t102 t104 y116 (wrap64 (x7_2 + 1)) a0_0 l0_1 l0_2) = some r := by first | (rw [hy116]; with_reducible exact H) | (have H2_ := (Option.bind_some _ _).symm.trans H; rw [hy116]; with_reducible exact H2_) | (have H2_ := (Option.bind_some _ _).symm.trans H; with_reducible exact H2_) | with_reducible exact H | (rw [hy116]; exact H) | exact H
                    have Ny116 := Aside0.mk hy116
                    clear hy116
                    have H' := Aside0.mk H
                    clear H
                    have hnb92 := NB112_101.out
                    have hnc92 := NB101_112.out
                    have hcz93_0 : wr.cell? ⟨gb112, 0, none⟩ = some (.int .i64 ((rd_T47 l0_2 (rd t104 x7_2)).kind)) := (blk_cell BK112.out 0).trans rfl
                    have hcz93_1 : wr.cell? ⟨gb112, 1, none⟩ = some (.string ((rd_T47 l0_2 (rd t104 x7_2)).atom.pred)) := (blk_cell BK112.out 1).trans rfl
                    have hcz93_2 : wr.cell? ⟨gb112, 2, none⟩ = some (.slice A111_2 ((rd_T47 l0_2 (rd t104 x7_2)).atom.args).length c111_2) := (blk_cell BK112.out 2).trans rfl
                    have hcz93_3 : wr.cell? ⟨gb112, 3, none⟩ = some (.string ((rd_T47 l0_2 (rd t104 x7_2)).op)) := (blk_cell BK112.out 3).trans rfl
                    have hcz93_4 : wr.cell? ⟨gb112, 4, none⟩ = some (.bool ((rd_T47 l0_2 (rd t104 x7_2)).l.isVar)) := (blk_cell BK112.out 4).trans rfl
                    have hcz93_5 : wr.cell? ⟨gb112, 5, none⟩ = some (.string ((rd_T47 l0_2 (rd t104 x7_2)).l.name)) := (blk_cell BK112.out 5).trans rfl
                    have hcz93_6 : wr.cell? ⟨gb112, 6, none⟩ = some (.bool ((rd_T47 l0_2 (rd t104 x7_2)).l.val.isSym)) := (blk_cell BK112.out 6).trans rfl
                    have hcz93_7 : wr.cell? ⟨gb112, 7, none⟩ = some (.string ((rd_T47 l0_2 (rd t104 x7_2)).l.val.sym)) := (blk_cell BK112.out 7).trans rfl
                    have hcz93_8 : wr.cell? ⟨gb112, 8, none⟩ = some (.int .i64 ((rd_T47 l0_2 (rd t104 x7_2)).l.val.n)) := (blk_cell BK112.out 8).trans rfl
                    have hcz93_9 : wr.cell? ⟨gb112, 9, none⟩ = some (.bool ((rd_T47 l0_2 (rd t104 x7_2)).r.isVar)) := (blk_cell BK112.out 9).trans rfl
                    have hcz93_10 : wr.cell? ⟨gb112, 10, none⟩ = some (.string ((rd_T47 l0_2 (rd t104 x7_2)).r.name)) := (blk_cell BK112.out 10).trans rfl
                    have hcz93_11 : wr.cell? ⟨gb112, 11, none⟩ = some (.bool ((rd_T47 l0_2 (rd t104 x7_2)).r.val.isSym)) := (blk_cell BK112.out 11).trans rfl
                    have hcz93_12 : wr.cell? ⟨gb112, 12, none⟩ = some (.string ((rd_T47 l0_2 (rd t104 x7_2)).r.val.sym)) := (blk_cell BK112.out 12).trans rfl
                    have hcz93_13 : wr.cell? ⟨gb112, 13, none⟩ = some (.int .i64 ((rd_T47 l0_2 (rd t104 x7_2)).r.val.n)) := (blk_cell BK112.out 13).trans rfl
                    have hfz93_0 := blk_frozen BK112.out 0
                    have hfz93_1 := blk_frozen BK112.out 1
                    have hfz93_2 := blk_frozen BK112.out 2
                    have hfz93_3 := blk_frozen BK112.out 3
                    have hfz93_4 := blk_frozen BK112.out 4
                    have hfz93_5 := blk_frozen BK112.out 5
                    have hfz93_6 := blk_frozen BK112.out 6
                    have hfz93_7 := blk_frozen BK112.out 7
                    have hfz93_8 := blk_frozen BK112.out 8
                    have hfz93_9 := blk_frozen BK112.out 9
                    have hfz93_10 := blk_frozen BK112.out 10
                    have hfz93_11 := blk_frozen BK112.out 11
                    have hfz93_12 := blk_frozen BK112.out 12
                    have hfz93_13 := blk_frozen BK112.out 13
                    go_wp2_with (first | ((with_reducible refine gate_callee (f := 22) rfl ?_); refine goesL_ (some 111) rfl rfl Try.func22 (by kernel_rfl) rfl #[.agg #[.string ((rd_T47 l0_2 (rd t104 x7_2)).atom.pred), .slice A111_2 ((rd_T47 l0_2 (rd t104 x7_2)).atom.args).length c111_2]] rfl (by (try simp only [List.map_toArray, List.map_cons, List.map_nil]); first | done | rfl | (simp only [List.length_drop, List.length_take]; rfl)) ?_; (with_reducible refine (lambrequinref09_Vars.calls k4 ((rd_T47 l0_2 (rd t104 x7_2)).atom.pred) _ _ ((rd_T47 l0_2 (rd t104 x7_2)).atom.args) t113 _ ?side1 ?side2 A90.out).mono ?_); (case side1 => repeat (first | exact (Kd.C_below HR111_2.out HB.out) | (with_reducible refine Kd.C_alloc ?_ _) | (with_reducible refine Kd.C_drewN ?_ _) | (with_reducible refine Kd.C_drew ?_))); (case side2 => exact HC111_2.out); rintro e w94 ⟨v114, rfl, ho0, hb⟩; refine ⟨_, rfl, ?_⟩; have n0_ := Aside0.mk (Kd.R_below (by (with_reducible repeat (first | apply Kd.R_alloc | apply Kd.R_drewN | apply Kd.R_drew)); exact HO_4.out) hb); have n1_ := Aside0.mk (Kd.R_elder' (by (with_reducible repeat (first | apply Kd.R_alloc | apply Kd.R_drewN | apply Kd.R_drew)); exact HO_6.out) (Kd.R_base ho0) hb); have n2_ := Aside0.mk (Kd.R_lower (Kd.R_new' ho0 (Kd.R_lt (by (with_reducible repeat (first | apply Kd.R_alloc | apply Kd.R_drewN | apply Kd.R_drew)); exact HO_6.out))) (below_size (by repeat (first | (with_reducible first | exact HB.out | apply below_alloc | apply pw_below_drewN | apply below_drew1 | refine below_set ?_ GE101.out | refine below_set ?_ GE112.out) | exact HB.out)))); have n3_ := Aside0.mk (blk_below (g := gb101) (o := .cells #[.string a0_0, .slice A0_1 l0_1.length c0_1, .slice (some ad111) l0_2.length c0_2] 27 (0, 0)) (by (with_reducible repeat (first | refine blk_drewN ?_ _ | refine blk_drew ?_ | refine blk_alloc ?_ _)); exact BK101.out) hb); have n4_ := Aside0.mk (blk_below (g := gb112) (o := .cells #[.int .i64 ((rd_T47 l0_2 (rd t104 x7_2)).kind), .string ((rd_T47 l0_2 (rd t104 x7_2)).atom.pred), .slice A111_2 ((rd_T47 l0_2 (rd t104 x7_2)).atom.args).length c111_2, .string ((rd_T47 l0_2 (rd t104 x7_2)).op), .bool ((rd_T47 l0_2 (rd t104 x7_2)).l.isVar), .string ((rd_T47 l0_2 (rd t104 x7_2)).l.name), .bool ((rd_T47 l0_2 (rd t104 x7_2)).l.val.isSym), .string ((rd_T47 l0_2 (rd t104 x7_2)).l.val.sym), .int .i64 ((rd_T47 l0_2 (rd t104 x7_2)).l.val.n), .bool ((rd_T47 l0_2 (rd t104 x7_2)).r.isVar), .string ((rd_T47 l0_2 (rd t104 x7_2)).r.name), .bool ((rd_T47 l0_2 (rd t104 x7_2)).r.val.isSym), .string ((rd_T47 l0_2 (rd t104 x7_2)).r.val.sym), .int .i64 ((rd_T47 l0_2 (rd t104 x7_2)).r.val.n)] 47 (0, 0)) (by (with_reducible repeat (first | refine blk_drewN ?_ _ | refine blk_drew ?_ | refine blk_alloc ?_ _)); exact BK112.out) hb); have n5_ := Aside0.mk (below_step (by repeat (first | (with_reducible first | exact HB.out | apply below_alloc | apply pw_below_drewN | apply below_drew1 | refine below_set ?_ GE101.out | refine below_set ?_ GE112.out) | exact HB.out)) hb); clear HO_4; clear HO_6; clear BK101; clear BK112; clear HB; have HO_4 := n0_; have HO_6 := n1_; have HO115 := n2_; have BK101 := n3_; have BK112 := n4_; have HB := n5_; clear n0_ n1_ n2_ n3_ n4_ n5_; (try clear hb); (try clear hb2); (try clear hk); (try clear hi); (try clear ho0); obtain ⟨Ao96, co96, eo96⟩ := Kd.R_slice HO115.out; subst eo96) | ((with_reducible refine gate_builtin (b := .append) (xs := #[.tmp 108, .tmp 111]) rfl ?_); (try (refine gate_guard (by rfl) ?_; dsimp only)); at_builtin; refine Kd.R_append_rows Kd.string (w0 := w) w.heap.size rfl (.tmp 108) (.tmp 111) 28 9 (.string ⟨#[]⟩) 16 rfl Try.underlying28 info9 rfl (by decide) (by omega) u6 x6_2 t113 _ _ _ (fun k_ => some k_ ≠ (.slice Ao96 t113.length co96 : Value).ownBlock) (fun _ => False) rfl rfl ?aO ?aR (fun _ _ h => h) (fun _ h => h.elim) ?aF ?aB ?aS ?aL ?_; (case aR => repeat (first | exact (Kd.R_reads' HO115.out).2.2 | (with_reducible refine Kd.C_alloc ?_ _) | (with_reducible refine Kd.C_drewN ?_ _) | (with_reducible refine Kd.C_drew ?_))); (case aB => exact (by repeat (first | (with_reducible first | exact HB.out | apply below_alloc | apply pw_below_drewN | apply below_drew1 | refine below_set ?_ GE101.out | refine below_set ?_ GE112.out) | exact HB.out))); (case aF => exact (fun k_ hk => Kd.fresh' (Kd.R_lt (by (with_reducible repeat (first | apply Kd.R_alloc | apply Kd.R_drewN | apply Kd.R_drew)); exact HO115.out)) k_ hk)); (case aO => exact (by (with_reducible repeat (first | apply Kd.R_alloc | apply Kd.R_drewN | apply Kd.R_drew)); exact Kd.R_mono HO_6.out (fun _ hk => hk.2))); (case aS => exact (below_size (by repeat (first | (with_reducible first | exact HB.out | apply below_alloc | apply pw_below_drewN | apply below_drew1 | refine below_set ?_ GE101.out | refine below_set ?_ GE112.out) | exact HB.out)))); (case aL => have := LMc91.out; omega); intro v117 w95 ho hb hg hat; rw [← Ny116.out] at ho; have n0_ := Aside0.mk (Kd.R_over' (by (with_reducible repeat (first | apply Kd.R_alloc | apply Kd.R_drewN | apply Kd.R_drew)); exact HO_4.out) (Kd.R_typed (by (with_reducible repeat (first | apply Kd.R_alloc | apply Kd.R_drewN | apply Kd.R_drew)); exact HO_6.out)) (by decide) hg); have n1_ := Aside0.mk (blk_grown (g := gb101) (o := .cells #[.string a0_0, .slice A0_1 l0_1.length c0_1, .slice (some ad111) l0_2.length c0_2] 27 (0, 0)) (by (with_reducible repeat (first | refine blk_drewN ?_ _ | refine blk_drew ?_ | refine blk_alloc ?_ _)); exact BK101.out) hg (Kd.R_ne HO_6.out BK101.out (by decide))); have n2_ := Aside0.mk (blk_grown (g := gb112) (o := .cells #[.int .i64 ((rd_T47 l0_2 (rd t104 x7_2)).kind), .string ((rd_T47 l0_2 (rd t104 x7_2)).atom.pred), .slice A111_2 ((rd_T47 l0_2 (rd t104 x7_2)).atom.args).length c111_2, .string ((rd_T47 l0_2 (rd t104 x7_2)).op), .bool ((rd_T47 l0_2 (rd t104 x7_2)).l.isVar), .string ((rd_T47 l0_2 (rd t104 x7_2)).l.name), .bool ((rd_T47 l0_2 (rd t104 x7_2)).l.val.isSym), .string ((rd_T47 l0_2 (rd t104 x7_2)).l.val.sym), .int .i64 ((rd_T47 l0_2 (rd t104 x7_2)).l.val.n), .bool ((rd_T47 l0_2 (rd t104 x7_2)).r.isVar), .string ((rd_T47 l0_2 (rd t104 x7_2)).r.name), .bool ((rd_T47 l0_2 (rd t104 x7_2)).r.val.isSym), .string ((rd_T47 l0_2 (rd t104 x7_2)).r.val.sym), .int .i64 ((rd_T47 l0_2 (rd t104 x7_2)).r.val.n)] 47 (0, 0)) (by (with_reducible repeat (first | refine blk_drewN ?_ _ | refine blk_drew ?_ | refine blk_alloc ?_ _)); exact BK112.out) hg (Kd.R_ne HO_6.out BK112.out (by decide))); have n3_ := Aside0.mk (Kd.R_after (ok := (fun _ => True)) (by (with_reducible repeat (first | apply Kd.R_alloc | apply Kd.R_drewN | apply Kd.R_drew)); exact HO115.out) hg hat); have n4_ := Aside0.mk (hb); have n5_ := Aside0.mk (ho); clear HO_4; clear BK101; clear BK112; clear HO115; clear HB; clear HO_6; have HO_4 := n0_; have BK101 := n1_; have BK112 := n2_; have HO115 := n3_; have HB := n4_; have HO118 := n5_; clear n0_ n1_ n2_ n3_ n4_ n5_; clear ho hb hg hat))
                    go_roundg k4
                    case measure => have := HJ5.out; have := HK2.out; have := HJ18.out; have := HK4.out; omega
                    case rel => exact ⟨(y116), (wrap64 (x7_2 + 1)), (by first | rfl | (simp; done) | (simp [*]; done)), H', ⟨by have := HJ5.out; have := HK2.out; have := HJ18.out; have := HK4.out; omega⟩, ⟨by (with_reducible repeat (first | apply Kd.R_alloc | apply Kd.R_drewN | apply Kd.R_drew)); exact HO_4.out⟩, ⟨by (with_reducible repeat (first | apply Kd.R_alloc | apply Kd.R_drewN | apply Kd.R_drew)); exact Kd.R_mono HO118.out (fun _ hk => trivial)⟩, ⟨by (with_reducible repeat (first | refine blk_drewN ?_ _ | refine blk_drew ?_ | refine blk_alloc ?_ _)); exact BK101.out⟩, ⟨by repeat (first | (with_reducible first | exact HB.out | apply below_alloc | apply pw_below_drewN | apply below_drew1 | refine below_set ?_ GE101.out | refine below_set ?_ GE112.out) | exact HB.out)⟩⟩
                   ·rw [if_neg c91] at H
                    exact absurd H (by simp)
               ·rw [if_neg c30] at H
                have c30b0 : (((rd_T47 l0_2 (rd t104 x7_2)).kind) == 1) = false := beq_eq_false_iff_ne.mpr c30
                have c30b1 : (((rd_T47 l0_2 (rd t104 x7_2)).kind) != 1) = true := bne_iff_ne.mpr c30
                have H' := Aside0.mk H
                clear H
                try go_wp2
                have n0_ := Aside0.mk (Kd.R_drew HO_4.out)
                have n1_ := Aside0.mk (Kd.R_drew HO_6.out)
                have n2_ := Aside0.mk (blk_drew BK101.out)
                have n3_ := Aside0.mk (below_drew1 HB.out)
                clear HO_4
                clear HO_6
                clear BK101
                clear HB
                have HO_4 := n0_
                have HO_6 := n1_
                have BK101 := n2_
                have HB := n3_
                clear n0_ n1_ n2_ n3_
                have p110 : 0 ≤ (x7_2 : Int) := of_decide_eq_true (by first | (with_reducible assumption) | assumption)
                have q110 : x7_2 < (t104.length : Int) := of_decide_eq_true (by first | (with_reducible assumption) | assumption)
                obtain ⟨ad110, e110, hx110_0⟩ := Kd.at_int (Kd.R_reads' HO_4.out).2.2 x7_2 p110 q110
                cases e110
                replace p110 := eq_true p110
                replace q110 := eq_true q110
                have p111 : 0 ≤ ((rd t104 x7_2) : Int) := of_decide_eq_true (by first | (with_reducible assumption) | assumption)
                have q111 : (rd t104 x7_2) < (l0_2.length : Int) := of_decide_eq_true (by first | (with_reducible assumption) | assumption)
                obtain ⟨ad111, A111_2, c111_2, e111, hx111_0, hx111_1, hx111_2, hx111_3, hx111_4, hx111_5, hx111_6, hx111_7, hx111_8, hx111_9, hx111_10, hx111_11, hx111_12, hx111_13, hl111_2, hi111_2⟩ := at_T47 HR0_2.out (rd t104 x7_2) p111 q111
                have hw111_13 := hx111_13
                have hw111_12 := hx111_12
                have hw111_11 := hx111_11
                have hw111_10 := hx111_10
                have hw111_9 := hx111_9
                have hw111_8 := hx111_8
                have hw111_7 := hx111_7
                have hw111_6 := hx111_6
                have hw111_5 := hx111_5
                have hw111_4 := hx111_4
                have hw111_3 := hx111_3
                have hw111_2 := hx111_2
                have hw111_1 := hx111_1
                have hw111_0 := hx111_0
                cases e111
                replace hx111_0 := (HB.out.cell (blt_ hx111_0)).trans hx111_0
                replace hx111_1 := (HB.out.cell (blt_ hx111_1)).trans hx111_1
                replace hx111_2 := (HB.out.cell (blt_ hx111_2)).trans hx111_2
                replace hx111_3 := (HB.out.cell (blt_ hx111_3)).trans hx111_3
                replace hx111_4 := (HB.out.cell (blt_ hx111_4)).trans hx111_4
                replace hx111_5 := (HB.out.cell (blt_ hx111_5)).trans hx111_5
                replace hx111_6 := (HB.out.cell (blt_ hx111_6)).trans hx111_6
                replace hx111_7 := (HB.out.cell (blt_ hx111_7)).trans hx111_7
                replace hx111_8 := (HB.out.cell (blt_ hx111_8)).trans hx111_8
                replace hx111_9 := (HB.out.cell (blt_ hx111_9)).trans hx111_9
                replace hx111_10 := (HB.out.cell (blt_ hx111_10)).trans hx111_10
                replace hx111_11 := (HB.out.cell (blt_ hx111_11)).trans hx111_11
                replace hx111_12 := (HB.out.cell (blt_ hx111_12)).trans hx111_12
                replace hx111_13 := (HB.out.cell (blt_ hx111_13)).trans hx111_13
                have HR111_2 := Aside0.mk hi111_2
                have HC111_2 := Aside0.mk hl111_2
                clear hi111_2 hl111_2
                replace p111 := eq_true p111
                replace q111 := eq_true q111
                refine start_ (n := 10) (S := fun w' => w'.cell? ⟨gb101, 0, none⟩ = some (.string a0_0) ∧ w'.cell? ⟨gb101, 1, none⟩ = some (.slice A0_1 l0_1.length c0_1) ∧ w'.cell? ⟨gb101, 2, none⟩ = some (.slice (some ad111) l0_2.length c0_2) ∧ w'.cell? (ad110.add (x7_2).toNat) = some (.int .i64 (rd t104 x7_2)) ∧ w'.cell? (ad111.add (((rd t104 x7_2)).toNat * 14)) = some (.int .i64 ((rd_T47 l0_2 (rd t104 x7_2)).kind)) ∧ w'.cell? ⟨(ad111.add (((rd t104 x7_2)).toNat * 14)).block, (ad111.add (((rd t104 x7_2)).toNat * 14)).off + 1, none⟩ = some (.string ((rd_T47 l0_2 (rd t104 x7_2)).atom.pred)) ∧ w'.cell? ⟨(ad111.add (((rd t104 x7_2)).toNat * 14)).block, (ad111.add (((rd t104 x7_2)).toNat * 14)).off + 2, none⟩ = some (.slice A111_2 ((rd_T47 l0_2 (rd t104 x7_2)).atom.args).length c111_2) ∧ w'.cell? ⟨(ad111.add (((rd t104 x7_2)).toNat * 14)).block, (ad111.add (((rd t104 x7_2)).toNat * 14)).off + 3, none⟩ = some (.string ((rd_T47 l0_2 (rd t104 x7_2)).op)) ∧ w'.cell? ⟨(ad111.add (((rd t104 x7_2)).toNat * 14)).block, (ad111.add (((rd t104 x7_2)).toNat * 14)).off + 4, none⟩ = some (.bool ((rd_T47 l0_2 (rd t104 x7_2)).l.isVar)) ∧ w'.cell? ⟨(ad111.add (((rd t104 x7_2)).toNat * 14)).block, (ad111.add (((rd t104 x7_2)).toNat * 14)).off + 5, none⟩ = some (.string ((rd_T47 l0_2 (rd t104 x7_2)).l.name)) ∧ w'.cell? ⟨(ad111.add (((rd t104 x7_2)).toNat * 14)).block, (ad111.add (((rd t104 x7_2)).toNat * 14)).off + 6, none⟩ = some (.bool ((rd_T47 l0_2 (rd t104 x7_2)).l.val.isSym)) ∧ w'.cell? ⟨(ad111.add (((rd t104 x7_2)).toNat * 14)).block, (ad111.add (((rd t104 x7_2)).toNat * 14)).off + 7, none⟩ = some (.string ((rd_T47 l0_2 (rd t104 x7_2)).l.val.sym)) ∧ w'.cell? ⟨(ad111.add (((rd t104 x7_2)).toNat * 14)).block, (ad111.add (((rd t104 x7_2)).toNat * 14)).off + 8, none⟩ = some (.int .i64 ((rd_T47 l0_2 (rd t104 x7_2)).l.val.n)) ∧ w'.cell? ⟨(ad111.add (((rd t104 x7_2)).toNat * 14)).block, (ad111.add (((rd t104 x7_2)).toNat * 14)).off + 9, none⟩ = some (.bool ((rd_T47 l0_2 (rd t104 x7_2)).r.isVar)) ∧ w'.cell? ⟨(ad111.add (((rd t104 x7_2)).toNat * 14)).block, (ad111.add (((rd t104 x7_2)).toNat * 14)).off + 10, none⟩ = some (.string ((rd_T47 l0_2 (rd t104 x7_2)).r.name)) ∧ w'.cell? ⟨(ad111.add (((rd t104 x7_2)).toNat * 14)).block, (ad111.add (((rd t104 x7_2)).toNat * 14)).off + 11, none⟩ = some (.bool ((rd_T47 l0_2 (rd t104 x7_2)).r.val.isSym)) ∧ w'.cell? ⟨(ad111.add (((rd t104 x7_2)).toNat * 14)).block, (ad111.add (((rd t104 x7_2)).toNat * 14)).off + 12, none⟩ = some (.string ((rd_T47 l0_2 (rd t104 x7_2)).r.val.sym)) ∧ w'.cell? ⟨(ad111.add (((rd t104 x7_2)).toNat * 14)).block, (ad111.add (((rd t104 x7_2)).toNat * 14)).off + 13, none⟩ = some (.int .i64 ((rd_T47 l0_2 (rd t104 x7_2)).r.val.n))) (ds := []) #[false, false, false, false, false, false, false, false, false, false] (by kernel_rfl) rfl rfl ⟨(blk_cell BK101.out 0).trans rfl, (blk_cell BK101.out 1).trans rfl, (blk_cell BK101.out 2).trans rfl, hx110_0, ((HB.out.cell (blt_ hw111_0)).trans hw111_0), ((HB.out.cell (blt_ hw111_1)).trans hw111_1), ((HB.out.cell (blt_ hw111_2)).trans hw111_2), ((HB.out.cell (blt_ hw111_3)).trans hw111_3), ((HB.out.cell (blt_ hw111_4)).trans hw111_4), ((HB.out.cell (blt_ hw111_5)).trans hw111_5), ((HB.out.cell (blt_ hw111_6)).trans hw111_6), ((HB.out.cell (blt_ hw111_7)).trans hw111_7), ((HB.out.cell (blt_ hw111_8)).trans hw111_8), ((HB.out.cell (blt_ hw111_9)).trans hw111_9), ((HB.out.cell (blt_ hw111_10)).trans hw111_10), ((HB.out.cell (blt_ hw111_11)).trans hw111_11), ((HB.out.cell (blt_ hw111_12)).trans hw111_12), ((HB.out.cell (blt_ hw111_13)).trans hw111_13)⟩ (fun hHeld => ?_); refine with_tabW lambrequinlaw13_PlanEarly.tab13 lambrequinlaw13_PlanEarly.bits13 (fun HT_ HW_ => ?_)
                generalize wc.drew = w97 at HO_4 HO_6 BK101 HB HR111_2 hx110_0 hx111_0 hx111_1 hx111_10 hx111_11 hx111_12 hx111_13 hx111_2 hx111_3 hx111_4 hx111_5 hx111_6 hx111_7 hx111_8 hx111_9 hHeld ⊢
                refine pure_ (i := 0) (N := some 57) (v := ?_) (a' := ?_) #[true, false, false, false, false, false, false, false, false, false] rfl rfl (any_of HT_.out (by kernel_rfl)) (fun _ _ _ h => h) (Or.inl ⟨by rfl, ?_⟩) ?_ ?_
                rotate_left
                ·intro w'
                 go_simp
                 with_reducible rfl
                rotate_left
                ·simp only [Act.put, List.setIfInBounds_toArray, List.set_cons_zero, List.set_cons_succ, i64_w, i32_w]
                 rfl
                refine pure_ (i := 2) (N := some 59) (v := ?_) (a' := ?_) #[true, false, true, false, false, false, false, false, false, false] rfl rfl (any_of HT_.out (by kernel_rfl)) (fun _ _ _ h => h) (Or.inl ⟨by rfl, ?_⟩) ?_ ?_
                rotate_left
                ·intro w'
                 go_simp
                 with_reducible rfl
                rotate_left
                ·simp only [Act.put, List.setIfInBounds_toArray, List.set_cons_zero, List.set_cons_succ, i64_w, i32_w]
                 rfl
                refine pure_ (i := 3) (N := some 60) (v := ?_) (a' := ?_) #[true, false, true, true, false, false, false, false, false, false] rfl rfl (any_of HT_.out (by kernel_rfl)) (fun _ _ _ h => h) (Or.inl ⟨by rfl, ?_⟩) ?_ ?_
                rotate_left
                ·intro w'
                 go_simp
                 with_reducible rfl
                rotate_left
                ·simp only [Act.put, List.setIfInBounds_toArray, List.set_cons_zero, List.set_cons_succ, i64_w, i32_w]
                 rfl
                refine pure_ (i := 4) (N := some 61) (v := ?_) (a' := ?_) #[true, false, true, true, true, false, false, false, false, false] rfl rfl (any_of HT_.out (by kernel_rfl)) (fun _ _ _ h => h) (Or.inl ⟨by rfl, ?_⟩) ?_ ?_
                rotate_left
                ·intro w'
                 go_simp
                 with_reducible rfl
                rotate_left
                ·simp only [Act.put, List.setIfInBounds_toArray, List.set_cons_zero, List.set_cons_succ, i64_w, i32_w]
                 rfl
                refine take_ (i := 1) (N := some 58) (v := ?_) (a' := ?_) #[true, true, true, true, true, false, false, false, false, false] rfl rfl (take_ofW HT_.out HW_.out (by kernel_rfl)) (fun _ _ _ h => h) (Or.inl ⟨by rfl, ?_⟩) hHeld ?_ ?_
                rotate_left
                ·rintro w' ⟨s0, s1, s2, s3, s4, s5, s6, s7, s8, s9, s10, s11, s12, s13, s14, s15, s16, s17⟩
                 go_simp
                 with_reducible rfl
                rotate_left
                ·simp only [Act.put, List.setIfInBounds_toArray, List.set_cons_zero, List.set_cons_succ, i64_w, i32_w]
                 rfl
                refine take_ (i := 5) (N := some 62) (v := ?_) (a' := ?_) #[true, true, true, true, true, true, false, false, false, false] rfl rfl (take_ofW HT_.out HW_.out (by kernel_rfl)) (fun _ _ _ h => h) (Or.inl ⟨by rfl, ?_⟩) hHeld ?_ ?_
                rotate_left
                ·rintro w' ⟨s0, s1, s2, s3, s4, s5, s6, s7, s8, s9, s10, s11, s12, s13, s14, s15, s16, s17⟩
                 go_simp
                 with_reducible rfl
                rotate_left
                ·simp only [Act.put, List.setIfInBounds_toArray, List.set_cons_zero, List.set_cons_succ, i64_w, i32_w]
                 rfl
                refine pure_ (i := 6) (N := some 63) (v := ?_) (a' := ?_) #[true, true, true, true, true, true, true, false, false, false] rfl rfl (any_of HT_.out (by kernel_rfl)) (fun _ _ _ h => h) (Or.inl ⟨by rfl, ?_⟩) ?_ ?_
                rotate_left
                ·intro w'
                 go_simp
                 with_reducible rfl
                rotate_left
                ·simp only [Act.put, List.setIfInBounds_toArray, List.set_cons_zero, List.set_cons_succ, i64_w, i32_w]
                 rfl
                refine take_ (i := 7) (N := some 64) (v := ?_) (a' := ?_) #[true, true, true, true, true, true, true, true, false, false] rfl rfl (take_ofW HT_.out HW_.out (by kernel_rfl)) (fun _ _ _ h => h) (Or.inl ⟨by rfl, ?_⟩) hHeld ?_ ?_
                rotate_left
                ·rintro w' ⟨s0, s1, s2, s3, s4, s5, s6, s7, s8, s9, s10, s11, s12, s13, s14, s15, s16, s17⟩
                 go_simp
                 with_reducible rfl
                rotate_left
                ·simp only [Act.put, List.setIfInBounds_toArray, List.set_cons_zero, List.set_cons_succ, i64_w, i32_w]
                 rfl
                refine one_ (i := 8) (N := some 8) #[true, true, true, true, true, true, true, true, true, false] rfl rfl (one_of HT_.out (by kernel_rfl)) (by decide) (fun K hK => ?_)
                refine box_step ?hg (N := 8) ?hd (cs := #[.int .i64 0, .string (⟨#[]⟩ : ByteArray), .slice none 0 0, .string (⟨#[]⟩ : ByteArray), .bool false, .string (⟨#[]⟩ : ByteArray), .bool false, .string (⟨#[]⟩ : ByteArray), .int .i64 0, .bool false, .string (⟨#[]⟩ : ByteArray), .bool false, .string (⟨#[]⟩ : ByteArray), .int .i64 0]) (t := 47) ?hr ?_; (case hd => rfl); (case hg => rfl); (case hr => first | (go_simp; done) | (go_simp; rfl))
                intro gb112 hg w98 hbox hb
                have HS3_ := (hb.cell (blt_ (hHeld.2.2.2.1))).trans (hHeld.2.2.2.1)
                have n0_ := Aside0.mk (Kd.R_below (by (with_reducible repeat (first | apply Kd.R_alloc | apply Kd.R_drewN | apply Kd.R_drew)); exact HO_4.out) hb)
                have n1_ := Aside0.mk (Kd.R_below (by (with_reducible repeat (first | apply Kd.R_alloc | apply Kd.R_drewN | apply Kd.R_drew)); exact HO_6.out) hb)
                have n2_ := Aside0.mk (blk_below (g := gb101) (o := .cells #[.string a0_0, .slice A0_1 l0_1.length c0_1, .slice (some ad111) l0_2.length c0_2] 27 (0, 0)) (by (with_reducible repeat (first | refine blk_drewN ?_ _ | refine blk_drew ?_ | refine blk_alloc ?_ _)); exact BK101.out) hb)
                have n3_ := Aside0.mk (below_step (by repeat (first | (with_reducible first | exact HB.out | apply below_alloc | apply pw_below_drewN | apply below_drew1 | refine below_set ?_ GE101.out) | exact HB.out)) hb)
                have n4_ := Aside0.mk (hbox)
                have n5_ := Aside0.mk ((by rw [hg]; exact (below_size (by repeat (first | (with_reducible first | exact HB.out | apply below_alloc | apply pw_below_drewN | apply below_drew1 | refine below_set ?_ GE101.out) | exact HB.out))) : w.heap.size ≤ gb112))
                have n6_ := Aside0.mk ((by rw [hg]; exact (below_size (by repeat (first | (with_reducible first | exact HB.out | apply below_alloc | apply pw_below_drewN | apply below_drew1 | refine below_set ?_ GE101.out) | exact HB.out))) : w.heap.size ≤ gb112))
                have n7_ := Aside0.mk ((by rw [hg]; exact Nat.ne_of_lt (blk_lt (g := gb101) (o := .cells #[.string a0_0, .slice A0_1 l0_1.length c0_1, .slice (some ad111) l0_2.length c0_2] 27 (0, 0)) (by (with_reducible repeat (first | refine blk_drewN ?_ _ | refine blk_drew ?_ | refine blk_alloc ?_ _)); exact BK101.out)) : gb101 ≠ gb112))
                have n8_ := Aside0.mk ((by rw [hg]; exact Nat.ne_of_gt (blk_lt (g := gb101) (o := .cells #[.string a0_0, .slice A0_1 l0_1.length c0_1, .slice (some ad111) l0_2.length c0_2] 27 (0, 0)) (by (with_reducible repeat (first | refine blk_drewN ?_ _ | refine blk_drew ?_ | refine blk_alloc ?_ _)); exact BK101.out)) : gb112 ≠ gb101))
                clear HO_4
                clear HO_6
                clear BK101
                clear HB
                have HO_4 := n0_
                have HO_6 := n1_
                have BK101 := n2_
                have HB := n3_
                have BK112 := n4_
                have GW112 := n5_
                have GE112 := n6_
                have NB101_112 := n7_
                have NB112_101 := n8_
                clear n0_ n1_ n2_ n3_ n4_ n5_ n6_ n7_ n8_
                clear hb hbox hg
                refine hK.out _ _ ⟨(blk_cell BK101.out 0).trans rfl, (blk_cell BK101.out 1).trans rfl, (blk_cell BK101.out 2).trans rfl, HS3_, ((HB.out.cell (blt_ hw111_0)).trans hw111_0), ((HB.out.cell (blt_ hw111_1)).trans hw111_1), ((HB.out.cell (blt_ hw111_2)).trans hw111_2), ((HB.out.cell (blt_ hw111_3)).trans hw111_3), ((HB.out.cell (blt_ hw111_4)).trans hw111_4), ((HB.out.cell (blt_ hw111_5)).trans hw111_5), ((HB.out.cell (blt_ hw111_6)).trans hw111_6), ((HB.out.cell (blt_ hw111_7)).trans hw111_7), ((HB.out.cell (blt_ hw111_8)).trans hw111_8), ((HB.out.cell (blt_ hw111_9)).trans hw111_9), ((HB.out.cell (blt_ hw111_10)).trans hw111_10), ((HB.out.cell (blt_ hw111_11)).trans hw111_11), ((HB.out.cell (blt_ hw111_12)).trans hw111_12), ((HB.out.cell (blt_ hw111_13)).trans hw111_13)⟩ (fun hHeld => ?_)
                clear hK K
                refine norm_ (a' := ?_) ?_ ?_
                rotate_left
                ·show Act.put _ (some 8) _ = _
                 simp only [Act.put, List.setIfInBounds_toArray, List.set_cons_zero, List.set_cons_succ, i64_w, i32_w]
                 rfl
                refine one_ (i := 9) (N := none) #[true, true, true, true, true, true, true, true, true, true] rfl rfl (one_of HT_.out (by kernel_rfl)) (by decide) (fun K hK => ?_)
                have hs99 : w98.cell? ⟨gb112, 0, none⟩ = some (.int .i64 0) := (blk_cell BK112.out 0).trans rfl
                have hfs99 := blk_frozen BK112.out 0
                have hns99_0 := NB101_112.out
                have hms99_0 := NB112_101.out
                have hs100 : w98.cell? ⟨gb112, 1, none⟩ = some (.string (⟨#[]⟩ : ByteArray)) := (blk_cell BK112.out 1).trans rfl
                have hfs100 := blk_frozen BK112.out 1
                have hns100_0 := NB101_112.out
                have hms100_0 := NB112_101.out
                have hs101 : w98.cell? ⟨gb112, 2, none⟩ = some (.slice none 0 0) := (blk_cell BK112.out 2).trans rfl
                have hfs101 := blk_frozen BK112.out 2
                have hns101_0 := NB101_112.out
                have hms101_0 := NB112_101.out
                have hs102 : w98.cell? ⟨gb112, 3, none⟩ = some (.string (⟨#[]⟩ : ByteArray)) := (blk_cell BK112.out 3).trans rfl
                have hfs102 := blk_frozen BK112.out 3
                have hns102_0 := NB101_112.out
                have hms102_0 := NB112_101.out
                have hs103 : w98.cell? ⟨gb112, 4, none⟩ = some (.bool false) := (blk_cell BK112.out 4).trans rfl
                have hfs103 := blk_frozen BK112.out 4
                have hns103_0 := NB101_112.out
                have hms103_0 := NB112_101.out
                have hs104 : w98.cell? ⟨gb112, 5, none⟩ = some (.string (⟨#[]⟩ : ByteArray)) := (blk_cell BK112.out 5).trans rfl
                have hfs104 := blk_frozen BK112.out 5
                have hns104_0 := NB101_112.out
                have hms104_0 := NB112_101.out
                have hs105 : w98.cell? ⟨gb112, 6, none⟩ = some (.bool false) := (blk_cell BK112.out 6).trans rfl
                have hfs105 := blk_frozen BK112.out 6
                have hns105_0 := NB101_112.out
                have hms105_0 := NB112_101.out
                have hs106 : w98.cell? ⟨gb112, 7, none⟩ = some (.string (⟨#[]⟩ : ByteArray)) := (blk_cell BK112.out 7).trans rfl
                have hfs106 := blk_frozen BK112.out 7
                have hns106_0 := NB101_112.out
                have hms106_0 := NB112_101.out
                have hs107 : w98.cell? ⟨gb112, 8, none⟩ = some (.int .i64 0) := (blk_cell BK112.out 8).trans rfl
                have hfs107 := blk_frozen BK112.out 8
                have hns107_0 := NB101_112.out
                have hms107_0 := NB112_101.out
                have hs108 : w98.cell? ⟨gb112, 9, none⟩ = some (.bool false) := (blk_cell BK112.out 9).trans rfl
                have hfs108 := blk_frozen BK112.out 9
                have hns108_0 := NB101_112.out
                have hms108_0 := NB112_101.out
                have hs109 : w98.cell? ⟨gb112, 10, none⟩ = some (.string (⟨#[]⟩ : ByteArray)) := (blk_cell BK112.out 10).trans rfl
                have hfs109 := blk_frozen BK112.out 10
                have hns109_0 := NB101_112.out
                have hms109_0 := NB112_101.out
                have hs110 : w98.cell? ⟨gb112, 11, none⟩ = some (.bool false) := (blk_cell BK112.out 11).trans rfl
                have hfs110 := blk_frozen BK112.out 11
                have hns110_0 := NB101_112.out
                have hms110_0 := NB112_101.out
                have hs111 : w98.cell? ⟨gb112, 12, none⟩ = some (.string (⟨#[]⟩ : ByteArray)) := (blk_cell BK112.out 12).trans rfl
                have hfs111 := blk_frozen BK112.out 12
                have hns111_0 := NB101_112.out
                have hms111_0 := NB112_101.out
                have hs112 : w98.cell? ⟨gb112, 13, none⟩ = some (.int .i64 0) := (blk_cell BK112.out 13).trans rfl
                have hfs112 := blk_frozen BK112.out 13
                have hns112_0 := NB101_112.out
                have hms112_0 := NB112_101.out
                refine skip_ (w1 := ?_) (by rfl) rfl ?_ ?_
                rotate_left
                ·go_simp
                 rfl
                refine hK.out _ _ ⟨(by repeat (first | (with_reducible exact (hHeld.1)) | refine (cell_far (p := ⟨gb112, _, none⟩) NB101_112.out _).trans ?_ | exact (hHeld.1))), (by repeat (first | (with_reducible exact (hHeld.2.1)) | refine (cell_far (p := ⟨gb112, _, none⟩) NB101_112.out _).trans ?_ | exact (hHeld.2.1))), (by repeat (first | (with_reducible exact (hHeld.2.2.1)) | refine (cell_far (p := ⟨gb112, _, none⟩) NB101_112.out _).trans ?_ | exact (hHeld.2.2.1))), (by repeat (first | (with_reducible exact (hHeld.2.2.2.1)) | refine (cell_far (p := ⟨gb112, _, none⟩) (by first | exact Kd.own_blk (Kd.R_ne HO_4.out BK112.out (by decide)) | (rw [add_block]; exact Kd.own_blk (Kd.R_ne HO_4.out BK112.out (by decide))) | (show (Addr.add _ _).block ≠ _; rw [add_block]; exact Kd.own_blk (Kd.R_ne HO_4.out BK112.out (by decide))) | (dsimp only; exact Kd.own_blk (Kd.R_ne HO_4.out BK112.out (by decide)))) _).trans ?_ | exact (hHeld.2.2.2.1))), (by repeat (first | (with_reducible exact (hHeld.2.2.2.2.1)) | refine (cell_far (p := ⟨gb112, _, none⟩) (by first | exact Nat.ne_of_lt (Nat.lt_of_lt_of_le (by have := blt_ hw111_0; first | rwa [add_block] at this | exact this) GW112.out) | (rw [add_block]; exact Nat.ne_of_lt (Nat.lt_of_lt_of_le (by have := blt_ hw111_0; first | rwa [add_block] at this | exact this) GW112.out)) | (show (Addr.add _ _).block ≠ _; rw [add_block]; exact Nat.ne_of_lt (Nat.lt_of_lt_of_le (by have := blt_ hw111_0; first | rwa [add_block] at this | exact this) GW112.out)) | (dsimp only; exact Nat.ne_of_lt (Nat.lt_of_lt_of_le (by have := blt_ hw111_0; first | rwa [add_block] at this | exact this) GW112.out))) _).trans ?_ | exact (hHeld.2.2.2.2.1))), (by repeat (first | (with_reducible exact (hHeld.2.2.2.2.2.1)) | refine (cell_far (p := ⟨gb112, _, none⟩) (by first | exact Nat.ne_of_lt (Nat.lt_of_lt_of_le (by have := blt_ hw111_1; first | rwa [add_block] at this | exact this) GW112.out) | (rw [add_block]; exact Nat.ne_of_lt (Nat.lt_of_lt_of_le (by have := blt_ hw111_1; first | rwa [add_block] at this | exact this) GW112.out)) | (show (Addr.add _ _).block ≠ _; rw [add_block]; exact Nat.ne_of_lt (Nat.lt_of_lt_of_le (by have := blt_ hw111_1; first | rwa [add_block] at this | exact this) GW112.out)) | (dsimp only; exact Nat.ne_of_lt (Nat.lt_of_lt_of_le (by have := blt_ hw111_1; first | rwa [add_block] at this | exact this) GW112.out))) _).trans ?_ | exact (hHeld.2.2.2.2.2.1))), (by repeat (first | (with_reducible exact (hHeld.2.2.2.2.2.2.1)) | refine (cell_far (p := ⟨gb112, _, none⟩) (by first | exact Nat.ne_of_lt (Nat.lt_of_lt_of_le (by have := blt_ hw111_2; first | rwa [add_block] at this | exact this) GW112.out) | (rw [add_block]; exact Nat.ne_of_lt (Nat.lt_of_lt_of_le (by have := blt_ hw111_2; first | rwa [add_block] at this | exact this) GW112.out)) | (show (Addr.add _ _).block ≠ _; rw [add_block]; exact Nat.ne_of_lt (Nat.lt_of_lt_of_le (by have := blt_ hw111_2; first | rwa [add_block] at this | exact this) GW112.out)) | (dsimp only; exact Nat.ne_of_lt (Nat.lt_of_lt_of_le (by have := blt_ hw111_2; first | rwa [add_block] at this | exact this) GW112.out))) _).trans ?_ | exact (hHeld.2.2.2.2.2.2.1))), (by repeat (first | (with_reducible exact (hHeld.2.2.2.2.2.2.2.1)) | refine (cell_far (p := ⟨gb112, _, none⟩) (by first | exact Nat.ne_of_lt (Nat.lt_of_lt_of_le (by have := blt_ hw111_3; first | rwa [add_block] at this | exact this) GW112.out) | (rw [add_block]; exact Nat.ne_of_lt (Nat.lt_of_lt_of_le (by have := blt_ hw111_3; first | rwa [add_block] at this | exact this) GW112.out)) | (show (Addr.add _ _).block ≠ _; rw [add_block]; exact Nat.ne_of_lt (Nat.lt_of_lt_of_le (by have := blt_ hw111_3; first | rwa [add_block] at this | exact this) GW112.out)) | (dsimp only; exact Nat.ne_of_lt (Nat.lt_of_lt_of_le (by have := blt_ hw111_3; first | rwa [add_block] at this | exact this) GW112.out))) _).trans ?_ | exact (hHeld.2.2.2.2.2.2.2.1))), (by repeat (first | (with_reducible exact (hHeld.2.2.2.2.2.2.2.2.1)) | refine (cell_far (p := ⟨gb112, _, none⟩) (by first | exact Nat.ne_of_lt (Nat.lt_of_lt_of_le (by have := blt_ hw111_4; first | rwa [add_block] at this | exact this) GW112.out) | (rw [add_block]; exact Nat.ne_of_lt (Nat.lt_of_lt_of_le (by have := blt_ hw111_4; first | rwa [add_block] at this | exact this) GW112.out)) | (show (Addr.add _ _).block ≠ _; rw [add_block]; exact Nat.ne_of_lt (Nat.lt_of_lt_of_le (by have := blt_ hw111_4; first | rwa [add_block] at this | exact this) GW112.out)) | (dsimp only; exact Nat.ne_of_lt (Nat.lt_of_lt_of_le (by have := blt_ hw111_4; first | rwa [add_block] at this | exact this) GW112.out))) _).trans ?_ | exact (hHeld.2.2.2.2.2.2.2.2.1))), (by repeat (first | (with_reducible exact (hHeld.2.2.2.2.2.2.2.2.2.1)) | refine (cell_far (p := ⟨gb112, _, none⟩) (by first | exact Nat.ne_of_lt (Nat.lt_of_lt_of_le (by have := blt_ hw111_5; first | rwa [add_block] at this | exact this) GW112.out) | (rw [add_block]; exact Nat.ne_of_lt (Nat.lt_of_lt_of_le (by have := blt_ hw111_5; first | rwa [add_block] at this | exact this) GW112.out)) | (show (Addr.add _ _).block ≠ _; rw [add_block]; exact Nat.ne_of_lt (Nat.lt_of_lt_of_le (by have := blt_ hw111_5; first | rwa [add_block] at this | exact this) GW112.out)) | (dsimp only; exact Nat.ne_of_lt (Nat.lt_of_lt_of_le (by have := blt_ hw111_5; first | rwa [add_block] at this | exact this) GW112.out))) _).trans ?_ | exact (hHeld.2.2.2.2.2.2.2.2.2.1))), (by repeat (first | (with_reducible exact (hHeld.2.2.2.2.2.2.2.2.2.2.1)) | refine (cell_far (p := ⟨gb112, _, none⟩) (by first | exact Nat.ne_of_lt (Nat.lt_of_lt_of_le (by have := blt_ hw111_6; first | rwa [add_block] at this | exact this) GW112.out) | (rw [add_block]; exact Nat.ne_of_lt (Nat.lt_of_lt_of_le (by have := blt_ hw111_6; first | rwa [add_block] at this | exact this) GW112.out)) | (show (Addr.add _ _).block ≠ _; rw [add_block]; exact Nat.ne_of_lt (Nat.lt_of_lt_of_le (by have := blt_ hw111_6; first | rwa [add_block] at this | exact this) GW112.out)) | (dsimp only; exact Nat.ne_of_lt (Nat.lt_of_lt_of_le (by have := blt_ hw111_6; first | rwa [add_block] at this | exact this) GW112.out))) _).trans ?_ | exact (hHeld.2.2.2.2.2.2.2.2.2.2.1))), (by repeat (first | (with_reducible exact (hHeld.2.2.2.2.2.2.2.2.2.2.2.1)) | refine (cell_far (p := ⟨gb112, _, none⟩) (by first | exact Nat.ne_of_lt (Nat.lt_of_lt_of_le (by have := blt_ hw111_7; first | rwa [add_block] at this | exact this) GW112.out) | (rw [add_block]; exact Nat.ne_of_lt (Nat.lt_of_lt_of_le (by have := blt_ hw111_7; first | rwa [add_block] at this | exact this) GW112.out)) | (show (Addr.add _ _).block ≠ _; rw [add_block]; exact Nat.ne_of_lt (Nat.lt_of_lt_of_le (by have := blt_ hw111_7; first | rwa [add_block] at this | exact this) GW112.out)) | (dsimp only; exact Nat.ne_of_lt (Nat.lt_of_lt_of_le (by have := blt_ hw111_7; first | rwa [add_block] at this | exact this) GW112.out))) _).trans ?_ | exact (hHeld.2.2.2.2.2.2.2.2.2.2.2.1))), (by repeat (first | (with_reducible exact (hHeld.2.2.2.2.2.2.2.2.2.2.2.2.1)) | refine (cell_far (p := ⟨gb112, _, none⟩) (by first | exact Nat.ne_of_lt (Nat.lt_of_lt_of_le (by have := blt_ hw111_8; first | rwa [add_block] at this | exact this) GW112.out) | (rw [add_block]; exact Nat.ne_of_lt (Nat.lt_of_lt_of_le (by have := blt_ hw111_8; first | rwa [add_block] at this | exact this) GW112.out)) | (show (Addr.add _ _).block ≠ _; rw [add_block]; exact Nat.ne_of_lt (Nat.lt_of_lt_of_le (by have := blt_ hw111_8; first | rwa [add_block] at this | exact this) GW112.out)) | (dsimp only; exact Nat.ne_of_lt (Nat.lt_of_lt_of_le (by have := blt_ hw111_8; first | rwa [add_block] at this | exact this) GW112.out))) _).trans ?_ | exact (hHeld.2.2.2.2.2.2.2.2.2.2.2.2.1))), (by repeat (first | (with_reducible exact (hHeld.2.2.2.2.2.2.2.2.2.2.2.2.2.1)) | refine (cell_far (p := ⟨gb112, _, none⟩) (by first | exact Nat.ne_of_lt (Nat.lt_of_lt_of_le (by have := blt_ hw111_9; first | rwa [add_block] at this | exact this) GW112.out) | (rw [add_block]; exact Nat.ne_of_lt (Nat.lt_of_lt_of_le (by have := blt_ hw111_9; first | rwa [add_block] at this | exact this) GW112.out)) | (show (Addr.add _ _).block ≠ _; rw [add_block]; exact Nat.ne_of_lt (Nat.lt_of_lt_of_le (by have := blt_ hw111_9; first | rwa [add_block] at this | exact this) GW112.out)) | (dsimp only; exact Nat.ne_of_lt (Nat.lt_of_lt_of_le (by have := blt_ hw111_9; first | rwa [add_block] at this | exact this) GW112.out))) _).trans ?_ | exact (hHeld.2.2.2.2.2.2.2.2.2.2.2.2.2.1))), (by repeat (first | (with_reducible exact (hHeld.2.2.2.2.2.2.2.2.2.2.2.2.2.2.1)) | refine (cell_far (p := ⟨gb112, _, none⟩) (by first | exact Nat.ne_of_lt (Nat.lt_of_lt_of_le (by have := blt_ hw111_10; first | rwa [add_block] at this | exact this) GW112.out) | (rw [add_block]; exact Nat.ne_of_lt (Nat.lt_of_lt_of_le (by have := blt_ hw111_10; first | rwa [add_block] at this | exact this) GW112.out)) | (show (Addr.add _ _).block ≠ _; rw [add_block]; exact Nat.ne_of_lt (Nat.lt_of_lt_of_le (by have := blt_ hw111_10; first | rwa [add_block] at this | exact this) GW112.out)) | (dsimp only; exact Nat.ne_of_lt (Nat.lt_of_lt_of_le (by have := blt_ hw111_10; first | rwa [add_block] at this | exact this) GW112.out))) _).trans ?_ | exact (hHeld.2.2.2.2.2.2.2.2.2.2.2.2.2.2.1))), (by repeat (first | (with_reducible exact (hHeld.2.2.2.2.2.2.2.2.2.2.2.2.2.2.2.1)) | refine (cell_far (p := ⟨gb112, _, none⟩) (by first | exact Nat.ne_of_lt (Nat.lt_of_lt_of_le (by have := blt_ hw111_11; first | rwa [add_block] at this | exact this) GW112.out) | (rw [add_block]; exact Nat.ne_of_lt (Nat.lt_of_lt_of_le (by have := blt_ hw111_11; first | rwa [add_block] at this | exact this) GW112.out)) | (show (Addr.add _ _).block ≠ _; rw [add_block]; exact Nat.ne_of_lt (Nat.lt_of_lt_of_le (by have := blt_ hw111_11; first | rwa [add_block] at this | exact this) GW112.out)) | (dsimp only; exact Nat.ne_of_lt (Nat.lt_of_lt_of_le (by have := blt_ hw111_11; first | rwa [add_block] at this | exact this) GW112.out))) _).trans ?_ | exact (hHeld.2.2.2.2.2.2.2.2.2.2.2.2.2.2.2.1))), (by repeat (first | (with_reducible exact (hHeld.2.2.2.2.2.2.2.2.2.2.2.2.2.2.2.2.1)) | refine (cell_far (p := ⟨gb112, _, none⟩) (by first | exact Nat.ne_of_lt (Nat.lt_of_lt_of_le (by have := blt_ hw111_12; first | rwa [add_block] at this | exact this) GW112.out) | (rw [add_block]; exact Nat.ne_of_lt (Nat.lt_of_lt_of_le (by have := blt_ hw111_12; first | rwa [add_block] at this | exact this) GW112.out)) | (show (Addr.add _ _).block ≠ _; rw [add_block]; exact Nat.ne_of_lt (Nat.lt_of_lt_of_le (by have := blt_ hw111_12; first | rwa [add_block] at this | exact this) GW112.out)) | (dsimp only; exact Nat.ne_of_lt (Nat.lt_of_lt_of_le (by have := blt_ hw111_12; first | rwa [add_block] at this | exact this) GW112.out))) _).trans ?_ | exact (hHeld.2.2.2.2.2.2.2.2.2.2.2.2.2.2.2.2.1))), (by repeat (first | (with_reducible exact (hHeld.2.2.2.2.2.2.2.2.2.2.2.2.2.2.2.2.2)) | refine (cell_far (p := ⟨gb112, _, none⟩) (by first | exact Nat.ne_of_lt (Nat.lt_of_lt_of_le (by have := blt_ hw111_13; first | rwa [add_block] at this | exact this) GW112.out) | (rw [add_block]; exact Nat.ne_of_lt (Nat.lt_of_lt_of_le (by have := blt_ hw111_13; first | rwa [add_block] at this | exact this) GW112.out)) | (show (Addr.add _ _).block ≠ _; rw [add_block]; exact Nat.ne_of_lt (Nat.lt_of_lt_of_le (by have := blt_ hw111_13; first | rwa [add_block] at this | exact this) GW112.out)) | (dsimp only; exact Nat.ne_of_lt (Nat.lt_of_lt_of_le (by have := blt_ hw111_13; first | rwa [add_block] at this | exact this) GW112.out))) _).trans ?_ | exact (hHeld.2.2.2.2.2.2.2.2.2.2.2.2.2.2.2.2.2)))⟩ (fun hHeld => ?_)
                clear hK K
                refine done_ (done_of HT_.out (by kernel_rfl)) ?_
                have hnb113 := NB112_101.out
                have hnc113 := NB101_112.out
                have hcz114_0 : w98.cell? ⟨gb112, 0, none⟩ = some (.int .i64 0) := (blk_cell BK112.out 0).trans rfl
                have hcz114_1 : w98.cell? ⟨gb112, 1, none⟩ = some (.string (⟨#[]⟩ : ByteArray)) := (blk_cell BK112.out 1).trans rfl
                have hcz114_2 : w98.cell? ⟨gb112, 2, none⟩ = some (.slice none 0 0) := (blk_cell BK112.out 2).trans rfl
                have hcz114_3 : w98.cell? ⟨gb112, 3, none⟩ = some (.string (⟨#[]⟩ : ByteArray)) := (blk_cell BK112.out 3).trans rfl
                have hcz114_4 : w98.cell? ⟨gb112, 4, none⟩ = some (.bool false) := (blk_cell BK112.out 4).trans rfl
                have hcz114_5 : w98.cell? ⟨gb112, 5, none⟩ = some (.string (⟨#[]⟩ : ByteArray)) := (blk_cell BK112.out 5).trans rfl
                have hcz114_6 : w98.cell? ⟨gb112, 6, none⟩ = some (.bool false) := (blk_cell BK112.out 6).trans rfl
                have hcz114_7 : w98.cell? ⟨gb112, 7, none⟩ = some (.string (⟨#[]⟩ : ByteArray)) := (blk_cell BK112.out 7).trans rfl
                have hcz114_8 : w98.cell? ⟨gb112, 8, none⟩ = some (.int .i64 0) := (blk_cell BK112.out 8).trans rfl
                have hcz114_9 : w98.cell? ⟨gb112, 9, none⟩ = some (.bool false) := (blk_cell BK112.out 9).trans rfl
                have hcz114_10 : w98.cell? ⟨gb112, 10, none⟩ = some (.string (⟨#[]⟩ : ByteArray)) := (blk_cell BK112.out 10).trans rfl
                have hcz114_11 : w98.cell? ⟨gb112, 11, none⟩ = some (.bool false) := (blk_cell BK112.out 11).trans rfl
                have hcz114_12 : w98.cell? ⟨gb112, 12, none⟩ = some (.string (⟨#[]⟩ : ByteArray)) := (blk_cell BK112.out 12).trans rfl
                have hcz114_13 : w98.cell? ⟨gb112, 13, none⟩ = some (.int .i64 0) := (blk_cell BK112.out 13).trans rfl
                have hfz114_0 := blk_frozen BK112.out 0
                have hfz114_1 := blk_frozen BK112.out 1
                have hfz114_2 := blk_frozen BK112.out 2
                have hfz114_3 := blk_frozen BK112.out 3
                have hfz114_4 := blk_frozen BK112.out 4
                have hfz114_5 := blk_frozen BK112.out 5
                have hfz114_6 := blk_frozen BK112.out 6
                have hfz114_7 := blk_frozen BK112.out 7
                have hfz114_8 := blk_frozen BK112.out 8
                have hfz114_9 := blk_frozen BK112.out 9
                have hfz114_10 := blk_frozen BK112.out 10
                have hfz114_11 := blk_frozen BK112.out 11
                have hfz114_12 := blk_frozen BK112.out 12
                have hfz114_13 := blk_frozen BK112.out 13
                try go_wp2
                go_roundg kj18
                case measure => have := HJ5.out; have := HK2.out; have := HJ18.out; omega
                case rel => exact ⟨(x6_2), (wrap64 (x7_2 + 1)), (by first | rfl | (simp; done) | (simp [*]; done)), H', ⟨by have := HJ5.out; have := HK2.out; have := HJ18.out; omega⟩, ⟨by (with_reducible repeat (first | apply Kd.R_alloc | apply Kd.R_drewN | apply Kd.R_drew)); exact Kd.R_mono (Kd.R_far (p := ⟨gb112, 13, none⟩) (Kd.R_far (p := ⟨gb112, 12, none⟩) (Kd.R_far (p := ⟨gb112, 11, none⟩) (Kd.R_far (p := ⟨gb112, 10, none⟩) (Kd.R_far (p := ⟨gb112, 9, none⟩) (Kd.R_far (p := ⟨gb112, 8, none⟩) (Kd.R_far (p := ⟨gb112, 7, none⟩) (Kd.R_far (p := ⟨gb112, 6, none⟩) (Kd.R_far (p := ⟨gb112, 5, none⟩) (Kd.R_far (p := ⟨gb112, 4, none⟩) (Kd.R_far (p := ⟨gb112, 3, none⟩) (Kd.R_far (p := ⟨gb112, 2, none⟩) (Kd.R_far (p := ⟨gb112, 1, none⟩) (Kd.R_far (p := ⟨gb112, 0, none⟩) (Kd.R_types HO_4.out BK112.out (by decide)) (fun _ hk => hk.2) _) (fun _ hk => hk.2) _) (fun _ hk => hk.2) _) (fun _ hk => hk.2) _) (fun _ hk => hk.2) _) (fun _ hk => hk.2) _) (fun _ hk => hk.2) _) (fun _ hk => hk.2) _) (fun _ hk => hk.2) _) (fun _ hk => hk.2) _) (fun _ hk => hk.2) _) (fun _ hk => hk.2) _) (fun _ hk => hk.2) _) (fun _ hk => hk.2) _) (fun _ hk => trivial)⟩, ⟨by (with_reducible repeat (first | apply Kd.R_alloc | apply Kd.R_drewN | apply Kd.R_drew)); exact Kd.R_mono (Kd.R_far (p := ⟨gb112, 13, none⟩) (Kd.R_far (p := ⟨gb112, 12, none⟩) (Kd.R_far (p := ⟨gb112, 11, none⟩) (Kd.R_far (p := ⟨gb112, 10, none⟩) (Kd.R_far (p := ⟨gb112, 9, none⟩) (Kd.R_far (p := ⟨gb112, 8, none⟩) (Kd.R_far (p := ⟨gb112, 7, none⟩) (Kd.R_far (p := ⟨gb112, 6, none⟩) (Kd.R_far (p := ⟨gb112, 5, none⟩) (Kd.R_far (p := ⟨gb112, 4, none⟩) (Kd.R_far (p := ⟨gb112, 3, none⟩) (Kd.R_far (p := ⟨gb112, 2, none⟩) (Kd.R_far (p := ⟨gb112, 1, none⟩) (Kd.R_far (p := ⟨gb112, 0, none⟩) (Kd.R_types HO_6.out BK112.out (by decide)) (fun _ hk => hk.2) _) (fun _ hk => hk.2) _) (fun _ hk => hk.2) _) (fun _ hk => hk.2) _) (fun _ hk => hk.2) _) (fun _ hk => hk.2) _) (fun _ hk => hk.2) _) (fun _ hk => hk.2) _) (fun _ hk => hk.2) _) (fun _ hk => hk.2) _) (fun _ hk => hk.2) _) (fun _ hk => hk.2) _) (fun _ hk => hk.2) _) (fun _ hk => hk.2) _) (fun _ hk => trivial)⟩, ⟨by repeat (first | (with_reducible first | exact BK101.out | refine blk_drewN ?_ _ | refine blk_drew ?_ | refine blk_alloc ?_ _) | refine blk_far ?_ NB101_112.out _ | exact BK101.out)⟩, ⟨by repeat (first | (with_reducible first | exact HB.out | apply below_alloc | apply pw_below_drewN | apply below_drew1 | refine below_set ?_ GE101.out | refine below_set ?_ GE112.out) | exact HB.out)⟩⟩
              ·rw [if_neg c29] at H
               exact absurd H (by simp)
             ·rw [if_neg c28] at H
              exact absurd H (by simp)
            ·rw [if_neg c27] at H
             exact absurd H (by simp)
           ·rw [if_neg c26] at H
            exact absurd H (by simp)
       ·rw [if_neg c18] at H
        have c18b0 : decide (x7_2 < (t104.length : Int)) = false := decide_eq_false c18
        clear c18
        obtain rfl := Option.some.inj H
        obtain ⟨Ao115, co115, eo115⟩ := Kd.R_slice HO_4.out
        subst eo115
        go_wp2
        go_ret
        exact ⟨by first | rfl | (simp [errW_none, errW_some] <;> rfl) | (simp [*, errW_none, errW_some] <;> rfl), by repeat (first | (with_reducible first | exact HB.out | apply below_alloc | apply pw_below_drewN | apply below_drew1 | refine below_set ?_ GE101.out) | exact HB.out)⟩
 ·replace c4 := Bool.eq_false_iff.mpr c4
  subst c4
  have H1 : (some t102) = some r := by rw [if_neg (show ¬ (false = true) by decide)] at H; exact H
  clear H
  have H := H1
  clear H1
  obtain rfl := Option.some.inj H
  go_enter Try.func5, Try.ntmps5
  go_wp2_with (first | ((with_reducible refine gate_dst (N := 1) rfl ?_); (try (refine gate_guard (by rfl) ?_; dsimp only)); refine box_event ?hg (N := 1) ?hd (cs := #[.string a0_0, .slice A0_1 l0_1.length c0_1, .slice A0_2 l0_2.length c0_2]) (t := 27) ?hr ?_; (case hd => rfl); (case hg => rfl); (case hr => first | (go_simp; done) | (go_simp; rfl)); intro gb101 hg w116 hbox hb; have n0_ := Aside0.mk (below_step (by repeat (first | (with_reducible first | exact HB.out | apply below_alloc | apply pw_below_drewN | apply below_drew1) | exact HB.out)) hb); have n1_ := Aside0.mk (hbox); have n2_ := Aside0.mk ((by rw [hg]; exact (below_size (by repeat (first | (with_reducible first | exact HB.out | apply below_alloc | apply pw_below_drewN | apply below_drew1) | exact HB.out))) : w.heap.size ≤ gb101)); have n3_ := Aside0.mk ((by rw [hg]; exact (below_size (by repeat (first | (with_reducible first | exact HB.out | apply below_alloc | apply pw_below_drewN | apply below_drew1) | exact HB.out))) : w.heap.size ≤ gb101)); clear HB; have HB := n0_; have BK101 := n1_; have GW101 := n2_; have GE101 := n3_; clear n0_ n1_ n2_ n3_; clear hb hbox hg) | ((with_reducible refine gate_callee (f := 15) rfl ?_); refine goesL_ (some 11) rfl rfl Try.func15 (by kernel_rfl) rfl #[] rfl (by (try simp only [List.map_toArray, List.map_cons, List.map_nil]); first | done | rfl | (simp only [List.length_drop, List.length_take]; rfl)) ?_; (with_reducible refine (lambrequinlaw13_shown.calls  t102 _ A2.out).mono ?_); rintro e w117 ⟨rfl, hb⟩; refine ⟨_, rfl, ?_⟩; have n0_ := Aside0.mk (blk_below (g := gb101) (o := .cells #[.string a0_0, .slice A0_1 l0_1.length c0_1, .slice A0_2 l0_2.length c0_2] 27 (0, 0)) (by (with_reducible repeat (first | refine blk_drewN ?_ _ | refine blk_drew ?_ | refine blk_alloc ?_ _)); exact BK101.out) hb); have n1_ := Aside0.mk (below_step (by repeat (first | (with_reducible first | exact HB.out | apply below_alloc | apply pw_below_drewN | apply below_drew1 | refine below_set ?_ GE101.out) | exact HB.out)) hb); clear BK101; clear HB; have BK101 := n0_; have HB := n1_; clear n0_ n1_; (try clear hb); (try clear hb2); (try clear hk); (try clear hi); have hcz118_0 : w117.cell? ⟨gb101, 0, none⟩ = some (.string a0_0) := (blk_cell BK101.out 0).trans rfl; have hcz118_1 : w117.cell? ⟨gb101, 1, none⟩ = some (.slice A0_1 l0_1.length c0_1) := (blk_cell BK101.out 1).trans rfl; have hcz118_2 : w117.cell? ⟨gb101, 2, none⟩ = some (.slice A0_2 l0_2.length c0_2) := (blk_cell BK101.out 2).trans rfl; have hfz118_0 := blk_frozen BK101.out 0; have hfz118_1 := blk_frozen BK101.out 1; have hfz118_2 := blk_frozen BK101.out 2) | ((with_reducible refine gate_callee (f := 16) rfl ?_); refine goesL_ (some 13) rfl rfl Try.func16 (by kernel_rfl) rfl #[.agg #[.string a0_0, .slice A0_1 l0_1.length c0_1, .slice A0_2 l0_2.length c0_2]] rfl (by (try simp only [List.map_toArray, List.map_cons, List.map_nil]); first | done | rfl | (simp only [List.length_drop, List.length_take]; rfl)) ?_; (with_reducible refine (lambrequinlaw13_few.calls k a0_0 _ _ l0_1 _ _ l0_2 false _ ?side1 ?side2 ?side3 ?side4 A3.out).mono ?_); (case side1 => repeat (first | exact (Kd.C_below HR0_1.out HB.out) | (with_reducible refine Kd.C_alloc ?_ _) | (with_reducible refine Kd.C_drewN ?_ _) | (with_reducible refine Kd.C_drew ?_))); (case side2 => exact HC0_1.out); (case side3 => repeat (first | exact (Kd.C_below HR0_2.out HB.out) | (with_reducible refine Kd.C_alloc ?_ _) | (with_reducible refine Kd.C_drewN ?_ _) | (with_reducible refine Kd.C_drew ?_))); (case side4 => exact HC0_2.out); rintro e w119 ⟨rfl, hb⟩; refine ⟨_, rfl, ?_⟩; have n0_ := Aside0.mk (blk_below (g := gb101) (o := .cells #[.string a0_0, .slice A0_1 l0_1.length c0_1, .slice A0_2 l0_2.length c0_2] 27 (0, 0)) (by (with_reducible repeat (first | refine blk_drewN ?_ _ | refine blk_drew ?_ | refine blk_alloc ?_ _)); exact BK101.out) hb); have n1_ := Aside0.mk (below_step (by repeat (first | (with_reducible first | exact HB.out | apply below_alloc | apply pw_below_drewN | apply below_drew1 | refine below_set ?_ GE101.out) | exact HB.out)) hb); clear BK101; clear HB; have BK101 := n0_; have HB := n1_; clear n0_ n1_; (try clear hb); (try clear hb2); (try clear hk); (try clear hi)))
  go_ret
  exact ⟨by first | rfl | (simp [errW_none, errW_some] <;> rfl) | (simp [*, errW_none, errW_some] <;> rfl), by repeat (first | (with_reducible first | exact HB.out | apply below_alloc | apply pw_below_drewN | apply below_drew1 | refine below_set ?_ GE101.out) | exact HB.out)⟩

end Go.Proofs.Ythpejcnldecmoaa.H

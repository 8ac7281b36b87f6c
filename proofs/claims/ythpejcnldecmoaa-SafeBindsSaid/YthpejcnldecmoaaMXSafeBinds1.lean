/- RowSafeBinds of the seat's law SafeBinds: the law holds, under the statement's own conditions. -/
import Derived.Test.YthpejcnldecmoaaMA
import Derived.Test.YthpejcnldecmoaaMXSafeBinds
import Derived.Test.YthpejcnldecmoaaMF
import Derived.Test.YthpejcnldecmoaaMD
namespace Go.Proofs.Ythpejcnldecmoaa.H
open Go.RowKit Go.Proofs.YthpejcnldecmoaaW.PrintWords Go.Proofs.YthpejcnldecmoaaW.PrintLast Go.Proofs.YthpejcnldecmoaaW.PrintMore
attribute [local go_sem] max2_int min2_int max_two min_two max_three min_three max_four min_four
set_option linter.unusedVariables false
set_option linter.unusedSimpArgs false
set_option maxHeartbeats 8000000 in
set_option maxRecDepth 100000 in
theorem lambrequinlaw09_SafeBinds.calls (k : Nat) (a0_0 : ByteArray) (A0_1 : Option Addr) (c0_1 : Nat) (l0_1 : List (Term)) (P0_2_ : Nat → Prop) (A0_2 : Option Addr) (c0_2 : Nat) (l0_2 : List (Liter)) (a1_0 : ByteArray) (P1_1_ : Nat → Prop) (A1_1 : Option Addr) (c1_1 : Nat) (l1_1 : List (Term)) (r : Bool) (w : World) (hr0_1 : Kd.C k45 w A0_1 l0_1.length l0_1) (hc0_1 : l0_1.length ≤ c0_1) (hs0_2 : Kd.V k47 47 w w.heap.size (fun k_ => P0_2_ k_) (.slice A0_2 l0_2.length c0_2) l0_2) (hs1_1 : Kd.V k45 45 w w.heap.size (fun k_ => P1_1_ k_) (.slice A1_1 l1_1.length c1_1) l1_1) (h : lambrequinlaw09_SafeBinds.f k a0_0 l0_1 l0_2 a1_0 l1_1 = some r) :
  Calls Try.prog 10 #[.agg #[.string a0_0, .slice A0_1 l0_1.length c0_1, .slice A0_2 l0_2.length c0_2], .agg #[.string a1_0, .slice A1_1 l1_1.length c1_1]] w fun e w' => e = .returned (.bool r) ∧ Below w.heap.size w w' := by
 have hu27 := Try.underlying27
 have hu24 := Try.underlying24
 have hu45 := Try.underlying45
 have hu47 := Try.underlying47
 have HR0_1 := Aside0.mk hr0_1
 have HC0_1 := Aside0.mk hc0_1
 clear hr0_1 hc0_1
 have HO0_2 := Aside0.mk (show Kd.V k47 47 w w.heap.size (fun k_ => ((P0_2_ k_ ∨ P1_1_ k_) ∨ w.heap.size ≤ k_)) (.slice A0_2 l0_2.length c0_2) l0_2 from Kd.V_mono hs0_2 (fun k_ hk => .inl (.inl hk)))
 have HO1_1 := Aside0.mk (show Kd.V k45 45 w w.heap.size (fun k_ => ((P0_2_ k_ ∨ P1_1_ k_) ∨ w.heap.size ≤ k_)) (.slice A1_1 l1_1.length c1_1) l1_1 from Kd.V_mono hs1_1 (fun k_ hk => .inl (.inr hk)))
 have HB := Aside0.mk (Below.refl w.heap.size w)
 have H : ((lambrequinlaw09_shown.f).bind fun t103 => (lambrequinlaw09_SafeBinds.j0 k t103 a0_0 l0_1 l0_2 a1_0 l1_1)) = some r := h
 clear h
 have HC3 := Aside0.mk H
 clear H
 go_enter Try.func10, Try.ntmps10
 go_upto_region 1 with (first | ((with_reducible refine gate_dst (N := 2) rfl ?_); (try (refine gate_guard (by rfl) ?_; dsimp only)); refine box_event ?hg (N := 2) ?hd (cs := #[.string a0_0, .slice A0_1 l0_1.length c0_1, .slice A0_2 l0_2.length c0_2]) (t := 27) ?hr ?_; (case hd => rfl); (case hg => rfl); (case hr => first | (go_simp; done) | (go_simp; rfl)); intro gb101 hg w4 hbox hb; have n0_ := Aside0.mk (Kd.V_below (Kd.V_elderB (by (with_reducible repeat (first | apply Kd.V_alloc | apply Kd.V_drewN | apply Kd.V_drew)); exact HO0_2.out) gb101 (Nat.le_of_eq hg.symm)) hb); have n1_ := Aside0.mk (Kd.V_below (Kd.V_elderB (by (with_reducible repeat (first | apply Kd.V_alloc | apply Kd.V_drewN | apply Kd.V_drew)); exact HO1_1.out) gb101 (Nat.le_of_eq hg.symm)) hb); have n2_ := Aside0.mk (below_step (by repeat (first | (with_reducible first | exact HB.out | apply below_alloc | apply pw_below_drewN | apply below_drew1) | exact HB.out)) hb); have n3_ := Aside0.mk (hbox); have n4_ := Aside0.mk ((by rw [hg]; exact (below_size (by repeat (first | (with_reducible first | exact HB.out | apply below_alloc | apply pw_below_drewN | apply below_drew1) | exact HB.out))) : w.heap.size ≤ gb101)); have n5_ := Aside0.mk ((by rw [hg]; exact (below_size (by repeat (first | (with_reducible first | exact HB.out | apply below_alloc | apply pw_below_drewN | apply below_drew1) | exact HB.out))) : w.heap.size ≤ gb101)); clear HO0_2; clear HO1_1; clear HB; have HO0_2 := n0_; have HO1_1 := n1_; have HB := n2_; have BK101 := n3_; have GW101 := n4_; have GE101 := n5_; clear n0_ n1_ n2_ n3_ n4_ n5_; clear hb hbox hg) | ((with_reducible refine gate_dst (N := 3) rfl ?_); (try (refine gate_guard (by rfl) ?_; dsimp only)); refine box_event ?hg (N := 3) ?hd (cs := #[.string a1_0, .slice A1_1 l1_1.length c1_1]) (t := 24) ?hr ?_; (case hd => rfl); (case hg => rfl); (case hr => first | (go_simp; done) | (go_simp; rfl)); intro gb102 hg w5 hbox hb; have n0_ := Aside0.mk (Kd.V_below (Kd.V_elderB (by (with_reducible repeat (first | apply Kd.V_alloc | apply Kd.V_drewN | apply Kd.V_drew)); exact HO0_2.out) gb102 (Nat.le_of_eq hg.symm)) hb); have n1_ := Aside0.mk (Kd.V_below (Kd.V_elderB (by (with_reducible repeat (first | apply Kd.V_alloc | apply Kd.V_drewN | apply Kd.V_drew)); exact HO1_1.out) gb102 (Nat.le_of_eq hg.symm)) hb); have n2_ := Aside0.mk (blk_below (g := gb101) (o := .cells #[.string a0_0, .slice A0_1 l0_1.length c0_1, .slice A0_2 l0_2.length c0_2] 27 (0, 0)) (by (with_reducible repeat (first | refine blk_drewN ?_ _ | refine blk_drew ?_ | refine blk_alloc ?_ _)); exact BK101.out) hb); have n3_ := Aside0.mk (below_step (by repeat (first | (with_reducible first | exact HB.out | apply below_alloc | apply pw_below_drewN | apply below_drew1 | refine below_set ?_ GE101.out) | exact HB.out)) hb); have n4_ := Aside0.mk (hbox); have n5_ := Aside0.mk ((by rw [hg]; exact (below_size (by repeat (first | (with_reducible first | exact HB.out | apply below_alloc | apply pw_below_drewN | apply below_drew1 | refine below_set ?_ GE101.out) | exact HB.out))) : w.heap.size ≤ gb102)); have n6_ := Aside0.mk ((by rw [hg]; exact (below_size (by repeat (first | (with_reducible first | exact HB.out | apply below_alloc | apply pw_below_drewN | apply below_drew1 | refine below_set ?_ GE101.out) | exact HB.out))) : w.heap.size ≤ gb102)); have n7_ := Aside0.mk ((by rw [hg]; exact Nat.ne_of_lt (blk_lt (g := gb101) (o := .cells #[.string a0_0, .slice A0_1 l0_1.length c0_1, .slice A0_2 l0_2.length c0_2] 27 (0, 0)) (by (with_reducible repeat (first | refine blk_drewN ?_ _ | refine blk_drew ?_ | refine blk_alloc ?_ _)); exact BK101.out)) : gb101 ≠ gb102)); have n8_ := Aside0.mk ((by rw [hg]; exact Nat.ne_of_gt (blk_lt (g := gb101) (o := .cells #[.string a0_0, .slice A0_1 l0_1.length c0_1, .slice A0_2 l0_2.length c0_2] 27 (0, 0)) (by (with_reducible repeat (first | refine blk_drewN ?_ _ | refine blk_drew ?_ | refine blk_alloc ?_ _)); exact BK101.out)) : gb102 ≠ gb101)); clear HO0_2; clear HO1_1; clear BK101; clear HB; have HO0_2 := n0_; have HO1_1 := n1_; have BK101 := n2_; have HB := n3_; have BK102 := n4_; have GW102 := n5_; have GE102 := n6_; have NB101_102 := n7_; have NB102_101 := n8_; clear n0_ n1_ n2_ n3_ n4_ n5_ n6_ n7_ n8_; clear hb hbox hg))
 (try simp only [Act.put, List.setIfInBounds_toArray, List.set_cons_zero, List.set_cons_succ])
 go_cut [5] (fun v5 wc => ∃ (kq : Nat) (x5_2 : Bool), v5 = .bool x5_2 ∧ Aside0 (lambrequinlaw09_SafeBinds.j0 kq x5_2 a0_0 l0_1 l0_2 a1_0 l1_1 = some r) ∧ Aside0 (kq ≤ k) ∧ Aside0 (Kd.V k47 47 wc w.heap.size (fun k_ => ((P0_2_ k_ ∨ P1_1_ k_) ∨ w.heap.size ≤ k_) ∧ k_ ≠ gb101 ∧ k_ ≠ gb102) (.slice A0_2 l0_2.length c0_2) l0_2) ∧ Aside0 (Kd.V k45 45 wc w.heap.size (fun k_ => ((P0_2_ k_ ∨ P1_1_ k_) ∨ w.heap.size ≤ k_) ∧ k_ ≠ gb101 ∧ k_ ≠ gb102) (.slice A1_1 l1_1.length c1_1) l1_1) ∧ Aside0 (wc.heap[gb101]? = some (.cells #[.string a0_0, (.slice A0_1 l0_1.length c0_1), (.slice A0_2 l0_2.length c0_2)] 27 (0, 0))) ∧ Aside0 (wc.heap[gb102]? = some (.cells #[.string a1_0, (.slice A1_1 l1_1.length c1_1)] 24 (0, 0))) ∧ Aside0 (Below w.heap.size w wc))
 case first =>
  have H := HC3.out
  clear HC3
  replace H := Option.bind_eq_some_iff.mp H
  obtain ⟨t103, A60, H⟩ := H
  replace H : (lambrequinlaw09_SafeBinds.j0 k t103 a0_0 l0_1 l0_2 a1_0 l1_1) = some r := H
  have A6 := Aside0.mk A60
  clear A60
  have H' := Aside0.mk H
  clear H
  go_wp2_with (first | ((with_reducible refine gate_callee (f := 25) rfl ?_); refine goesL_ (some 21) rfl rfl Try.func25 (by kernel_rfl) rfl #[] rfl (by (try simp only [List.map_toArray, List.map_cons, List.map_nil]); first | done | rfl | (simp only [List.length_drop, List.length_take]; rfl)) ?_; (with_reducible refine (lambrequinlaw09_shown.calls  t103 _ A6.out).mono ?_); rintro e w7 ⟨rfl, hb⟩; refine ⟨_, rfl, ?_⟩; have n0_ := Aside0.mk (Kd.V_below (by (with_reducible repeat (first | apply Kd.V_alloc | apply Kd.V_drewN | apply Kd.V_drew)); exact HO0_2.out) hb); have n1_ := Aside0.mk (Kd.V_below (by (with_reducible repeat (first | apply Kd.V_alloc | apply Kd.V_drewN | apply Kd.V_drew)); exact HO1_1.out) hb); have n2_ := Aside0.mk (blk_below (g := gb101) (o := .cells #[.string a0_0, .slice A0_1 l0_1.length c0_1, .slice A0_2 l0_2.length c0_2] 27 (0, 0)) (by (with_reducible repeat (first | refine blk_drewN ?_ _ | refine blk_drew ?_ | refine blk_alloc ?_ _)); exact BK101.out) hb); have n3_ := Aside0.mk (blk_below (g := gb102) (o := .cells #[.string a1_0, .slice A1_1 l1_1.length c1_1] 24 (0, 0)) (by (with_reducible repeat (first | refine blk_drewN ?_ _ | refine blk_drew ?_ | refine blk_alloc ?_ _)); exact BK102.out) hb); have n4_ := Aside0.mk (below_step (by repeat (first | (with_reducible first | exact HB.out | apply below_alloc | apply pw_below_drewN | apply below_drew1 | refine below_set ?_ GE101.out | refine below_set ?_ GE102.out) | exact HB.out)) hb); clear HO0_2; clear HO1_1; clear BK101; clear BK102; clear HB; have HO0_2 := n0_; have HO1_1 := n1_; have BK101 := n2_; have BK102 := n3_; have HB := n4_; clear n0_ n1_ n2_ n3_ n4_; (try clear hb); (try clear hb2); (try clear hk); (try clear hi)))
  go_meet
  case rel => exact ⟨_, (t103), (by first | rfl | (simp; done) | (simp [*]; done)), H', ⟨by first | omega | exact Nat.le_refl _⟩, ⟨by (with_reducible repeat (first | apply Kd.V_alloc | apply Kd.V_drewN | apply Kd.V_drew)); exact Kd.V_mono HO0_2.out (fun _ hk => ⟨hk.1.1, ⟨hk.1.2, hk.2⟩⟩)⟩, ⟨by (with_reducible repeat (first | apply Kd.V_alloc | apply Kd.V_drewN | apply Kd.V_drew)); exact Kd.V_mono HO1_1.out (fun _ hk => ⟨hk.1.1, ⟨hk.1.2, hk.2⟩⟩)⟩, ⟨by (with_reducible repeat (first | refine blk_drewN ?_ _ | refine blk_drew ?_ | refine blk_alloc ?_ _)); exact BK101.out⟩, ⟨by (with_reducible repeat (first | refine blk_drewN ?_ _ | refine blk_drew ?_ | refine blk_alloc ?_ _)); exact BK102.out⟩, ⟨by repeat (first | (with_reducible first | exact HB.out | apply below_alloc | apply pw_below_drewN | apply below_drew1 | refine below_set ?_ GE101.out | refine below_set ?_ GE102.out) | exact HB.out)⟩⟩
 case rest =>
  clear HC3
  try clear c1
  try clear c2
  try clear p2
  obtain ⟨kq, x5_2, rfl, HA, HJ2, HO_102002, HO_103001, BK101, BK102, HB⟩ := hcut
  cases kq with
  | zero => exact absurd HA.out (by simp [lambrequinlaw09_SafeBinds.j0])
  | succ kj2 =>
   have H := HA.out
   clear HA
   simp only [lambrequinlaw09_SafeBinds.j0] at H
   have HC8 := Aside0.mk H
   clear H
   go_upto_region 2 with (fail)
   go_cut [30] (fun v30 wc => ∃ (kq : Nat) (x30_7 : Bool), v30 = .bool x30_7 ∧ Aside0 (lambrequinlaw09_SafeBinds.j1 kq x5_2 x30_7 a0_0 l0_1 l0_2 a1_0 l1_1 = some r) ∧ Aside0 (kq ≤ kj2) ∧ Aside0 (Kd.V k47 47 wc w.heap.size (fun k_ => ((P0_2_ k_ ∨ P1_1_ k_) ∨ w.heap.size ≤ k_) ∧ k_ ≠ gb101 ∧ k_ ≠ gb102) (.slice A0_2 l0_2.length c0_2) l0_2) ∧ Aside0 (Kd.V k45 45 wc w.heap.size (fun k_ => ((P0_2_ k_ ∨ P1_1_ k_) ∨ w.heap.size ≤ k_) ∧ k_ ≠ gb101 ∧ k_ ≠ gb102) (.slice A1_1 l1_1.length c1_1) l1_1) ∧ Aside0 (wc.heap[gb101]? = some (.cells #[.string a0_0, (.slice A0_1 l0_1.length c0_1), (.slice A0_2 l0_2.length c0_2)] 27 (0, 0))) ∧ Aside0 (wc.heap[gb102]? = some (.cells #[.string a1_0, (.slice A1_1 l1_1.length c1_1)] 24 (0, 0))) ∧ Aside0 (Below w.heap.size w wc))
   case first =>
    have H := HC8.out
    clear HC8
    replace H := Option.bind_eq_some_iff.mp H
    obtain ⟨t104, A90, H⟩ := H
    replace H : (if t104 = true then (lambrequinlaw09_SafeBinds.j1 kj2 x5_2 (decide ((l1_1.length : Int) > 30)) a0_0 l0_1 l0_2 a1_0 l1_1) else (lambrequinlaw09_SafeBinds.j1 kj2 x5_2 true a0_0 l0_1 l0_2 a1_0 l1_1)) = some r := H
    have A9 := Aside0.mk A90
    clear A90
    by_cases c10 : t104 = true
    ·subst c10
     have H1 : (lambrequinlaw09_SafeBinds.j1 kj2 x5_2 (decide ((l1_1.length : Int) > 30)) a0_0 l0_1 l0_2 a1_0 l1_1) = some r := by rw [if_pos rfl] at H; exact H
     clear H
     have H := H1
     clear H1
     have H' := Aside0.mk H
     clear H
     have hnb11 := NB101_102.out
     have hnc11 := NB102_101.out
     have hcz12_0 : wc.cell? ⟨gb101, 0, none⟩ = some (.string a0_0) := (blk_cell BK101.out 0).trans rfl
     have hcz12_1 : wc.cell? ⟨gb101, 1, none⟩ = some (.slice A0_1 l0_1.length c0_1) := (blk_cell BK101.out 1).trans rfl
     have hcz12_2 : wc.cell? ⟨gb101, 2, none⟩ = some (.slice A0_2 l0_2.length c0_2) := (blk_cell BK101.out 2).trans rfl
     have hfz12_0 := blk_frozen BK101.out 0
     have hfz12_1 := blk_frozen BK101.out 1
     have hfz12_2 := blk_frozen BK101.out 2
     go_wp2_with (first | ((with_reducible refine gate_callee (f := 26) rfl ?_); refine goesL_ (some 23) rfl rfl Try.func26 (by kernel_rfl) rfl #[.agg #[.string a0_0, .slice A0_1 l0_1.length c0_1, .slice A0_2 l0_2.length c0_2]] rfl (by (try simp only [List.map_toArray, List.map_cons, List.map_nil]); first | done | rfl | (simp only [List.length_drop, List.length_take]; rfl)) ?_; (with_reducible refine (lambrequinlaw09_few.calls kj2 a0_0 _ _ l0_1 _ _ l0_2 true _ ?side1 ?side2 ?side3 ?side4 A9.out).mono ?_); (case side1 => repeat (first | exact (Kd.C_below HR0_1.out HB.out) | (with_reducible refine Kd.C_alloc ?_ _) | (with_reducible refine Kd.C_drewN ?_ _) | (with_reducible refine Kd.C_drew ?_))); (case side2 => exact HC0_1.out); (case side3 => repeat (first | exact (Kd.V_reads' HO_102002.out).2.2 | (with_reducible refine Kd.C_alloc ?_ _) | (with_reducible refine Kd.C_drewN ?_ _) | (with_reducible refine Kd.C_drew ?_))); (case side4 => exact (Kd.V_reads' HO_102002.out).2.1); rintro e w13 ⟨rfl, hb⟩; refine ⟨_, rfl, ?_⟩; have n0_ := Aside0.mk (Kd.V_below (by (with_reducible repeat (first | apply Kd.V_alloc | apply Kd.V_drewN | apply Kd.V_drew)); exact HO_102002.out) hb); have n1_ := Aside0.mk (Kd.V_below (by (with_reducible repeat (first | apply Kd.V_alloc | apply Kd.V_drewN | apply Kd.V_drew)); exact HO_103001.out) hb); have n2_ := Aside0.mk (blk_below (g := gb101) (o := .cells #[.string a0_0, .slice A0_1 l0_1.length c0_1, .slice A0_2 l0_2.length c0_2] 27 (0, 0)) (by (with_reducible repeat (first | refine blk_drewN ?_ _ | refine blk_drew ?_ | refine blk_alloc ?_ _)); exact BK101.out) hb); have n3_ := Aside0.mk (blk_below (g := gb102) (o := .cells #[.string a1_0, .slice A1_1 l1_1.length c1_1] 24 (0, 0)) (by (with_reducible repeat (first | refine blk_drewN ?_ _ | refine blk_drew ?_ | refine blk_alloc ?_ _)); exact BK102.out) hb); have n4_ := Aside0.mk (below_step (by repeat (first | (with_reducible first | exact HB.out | apply below_alloc | apply pw_below_drewN | apply below_drew1 | refine below_set ?_ GE101.out | refine below_set ?_ GE102.out) | exact HB.out)) hb); clear HO_102002; clear HO_103001; clear BK101; clear BK102; clear HB; have HO_102002 := n0_; have HO_103001 := n1_; have BK101 := n2_; have BK102 := n3_; have HB := n4_; clear n0_ n1_ n2_ n3_ n4_; (try clear hb); (try clear hb2); (try clear hk); (try clear hi); have hcz14_0 : w13.cell? ⟨gb102, 0, none⟩ = some (.string a1_0) := (blk_cell BK102.out 0).trans rfl; have hcz14_1 : w13.cell? ⟨gb102, 1, none⟩ = some (.slice A1_1 l1_1.length c1_1) := (blk_cell BK102.out 1).trans rfl; have hfz14_0 := blk_frozen BK102.out 0; have hfz14_1 := blk_frozen BK102.out 1))
     go_meet
     case rel => exact ⟨_, (decide ((l1_1.length : Int) > 30)), (by first | rfl | (simp; done) | (simp [*]; done)), H', ⟨by have := HJ2.out; first | omega | exact Nat.le_refl _⟩, ⟨by (with_reducible repeat (first | apply Kd.V_alloc | apply Kd.V_drewN | apply Kd.V_drew)); exact HO_102002.out⟩, ⟨by (with_reducible repeat (first | apply Kd.V_alloc | apply Kd.V_drewN | apply Kd.V_drew)); exact HO_103001.out⟩, ⟨by (with_reducible repeat (first | refine blk_drewN ?_ _ | refine blk_drew ?_ | refine blk_alloc ?_ _)); exact BK101.out⟩, ⟨by (with_reducible repeat (first | refine blk_drewN ?_ _ | refine blk_drew ?_ | refine blk_alloc ?_ _)); exact BK102.out⟩, ⟨by repeat (first | (with_reducible first | exact HB.out | apply below_alloc | apply pw_below_drewN | apply below_drew1 | refine below_set ?_ GE101.out | refine below_set ?_ GE102.out) | exact HB.out)⟩⟩
    ·replace c10 := Bool.eq_false_iff.mpr c10
     subst c10
     have H1 : (lambrequinlaw09_SafeBinds.j1 kj2 x5_2 true a0_0 l0_1 l0_2 a1_0 l1_1) = some r := by rw [if_neg (show ¬ (false = true) by decide)] at H; exact H
     clear H
     have H := H1
     clear H1
     have H' := Aside0.mk H
     clear H
     have hnb15 := NB101_102.out
     have hnc15 := NB102_101.out
     have hcz16_0 : wc.cell? ⟨gb101, 0, none⟩ = some (.string a0_0) := (blk_cell BK101.out 0).trans rfl
     have hcz16_1 : wc.cell? ⟨gb101, 1, none⟩ = some (.slice A0_1 l0_1.length c0_1) := (blk_cell BK101.out 1).trans rfl
     have hcz16_2 : wc.cell? ⟨gb101, 2, none⟩ = some (.slice A0_2 l0_2.length c0_2) := (blk_cell BK101.out 2).trans rfl
     have hfz16_0 := blk_frozen BK101.out 0
     have hfz16_1 := blk_frozen BK101.out 1
     have hfz16_2 := blk_frozen BK101.out 2
     go_wp2_with (first | ((with_reducible refine gate_callee (f := 26) rfl ?_); refine goesL_ (some 23) rfl rfl Try.func26 (by kernel_rfl) rfl #[.agg #[.string a0_0, .slice A0_1 l0_1.length c0_1, .slice A0_2 l0_2.length c0_2]] rfl (by (try simp only [List.map_toArray, List.map_cons, List.map_nil]); first | done | rfl | (simp only [List.length_drop, List.length_take]; rfl)) ?_; (with_reducible refine (lambrequinlaw09_few.calls kj2 a0_0 _ _ l0_1 _ _ l0_2 false _ ?side1 ?side2 ?side3 ?side4 A9.out).mono ?_); (case side1 => repeat (first | exact (Kd.C_below HR0_1.out HB.out) | (with_reducible refine Kd.C_alloc ?_ _) | (with_reducible refine Kd.C_drewN ?_ _) | (with_reducible refine Kd.C_drew ?_))); (case side2 => exact HC0_1.out); (case side3 => repeat (first | exact (Kd.V_reads' HO_102002.out).2.2 | (with_reducible refine Kd.C_alloc ?_ _) | (with_reducible refine Kd.C_drewN ?_ _) | (with_reducible refine Kd.C_drew ?_))); (case side4 => exact (Kd.V_reads' HO_102002.out).2.1); rintro e w17 ⟨rfl, hb⟩; refine ⟨_, rfl, ?_⟩; have n0_ := Aside0.mk (Kd.V_below (by (with_reducible repeat (first | apply Kd.V_alloc | apply Kd.V_drewN | apply Kd.V_drew)); exact HO_102002.out) hb); have n1_ := Aside0.mk (Kd.V_below (by (with_reducible repeat (first | apply Kd.V_alloc | apply Kd.V_drewN | apply Kd.V_drew)); exact HO_103001.out) hb); have n2_ := Aside0.mk (blk_below (g := gb101) (o := .cells #[.string a0_0, .slice A0_1 l0_1.length c0_1, .slice A0_2 l0_2.length c0_2] 27 (0, 0)) (by (with_reducible repeat (first | refine blk_drewN ?_ _ | refine blk_drew ?_ | refine blk_alloc ?_ _)); exact BK101.out) hb); have n3_ := Aside0.mk (blk_below (g := gb102) (o := .cells #[.string a1_0, .slice A1_1 l1_1.length c1_1] 24 (0, 0)) (by (with_reducible repeat (first | refine blk_drewN ?_ _ | refine blk_drew ?_ | refine blk_alloc ?_ _)); exact BK102.out) hb); have n4_ := Aside0.mk (below_step (by repeat (first | (with_reducible first | exact HB.out | apply below_alloc | apply pw_below_drewN | apply below_drew1 | refine below_set ?_ GE101.out | refine below_set ?_ GE102.out) | exact HB.out)) hb); clear HO_102002; clear HO_103001; clear BK101; clear BK102; clear HB; have HO_102002 := n0_; have HO_103001 := n1_; have BK101 := n2_; have BK102 := n3_; have HB := n4_; clear n0_ n1_ n2_ n3_ n4_; (try clear hb); (try clear hb2); (try clear hk); (try clear hi)))
     go_meet
     case rel => exact ⟨_, (true), (by first | rfl | (simp; done) | (simp [*]; done)), H', ⟨by have := HJ2.out; first | omega | exact Nat.le_refl _⟩, ⟨by (with_reducible repeat (first | apply Kd.V_alloc | apply Kd.V_drewN | apply Kd.V_drew)); exact HO_102002.out⟩, ⟨by (with_reducible repeat (first | apply Kd.V_alloc | apply Kd.V_drewN | apply Kd.V_drew)); exact HO_103001.out⟩, ⟨by (with_reducible repeat (first | refine blk_drewN ?_ _ | refine blk_drew ?_ | refine blk_alloc ?_ _)); exact BK101.out⟩, ⟨by (with_reducible repeat (first | refine blk_drewN ?_ _ | refine blk_drew ?_ | refine blk_alloc ?_ _)); exact BK102.out⟩, ⟨by repeat (first | (with_reducible first | exact HB.out | apply below_alloc | apply pw_below_drewN | apply below_drew1 | refine below_set ?_ GE101.out | refine below_set ?_ GE102.out) | exact HB.out)⟩⟩
   case rest =>
    clear HC8
    try clear c1
    try clear c2
    try clear p2
    try clear c10
    try clear c11
    try clear c15
    try clear hcz12_0
    try clear hcz12_1
    try clear hcz12_2
    try clear hcz14_0
    try clear hcz14_1
    try clear hcz16_0
    try clear hcz16_1
    try clear hcz16_2
    try clear hfz12_0
    try clear hfz12_1
    try clear hfz12_2
    try clear hfz14_0
    try clear hfz14_1
    try clear hfz16_0
    try clear hfz16_1
    try clear hfz16_2
    try clear p2
    obtain ⟨kq, x30_7, rfl, HA, HJ7, HO_102002, HO_103001, BK101, BK102, HB⟩ := hcut
    cases kq with
    | zero => exact absurd HA.out (by simp [lambrequinlaw09_SafeBinds.j1])
    | succ kj7 =>
     have H := HA.out
     clear HA
     simp only [lambrequinlaw09_SafeBinds.j1] at H
     by_cases c18 : x30_7 = true
     ·subst c18
      have H1 : (some x5_2) = some r := by rw [if_pos rfl] at H; exact H
      clear H
      have H := H1
      clear H1
      obtain rfl := Option.some.inj H
      go_wp2
      go_ret
      exact ⟨by first | rfl | (simp [errW_none, errW_some] <;> rfl) | (simp [*, errW_none, errW_some] <;> rfl), by repeat (first | (with_reducible first | exact HB.out | apply below_alloc | apply pw_below_drewN | apply below_drew1 | refine below_set ?_ GE101.out | refine below_set ?_ GE102.out) | exact HB.out)⟩
     ·replace c18 := Bool.eq_false_iff.mpr c18
      subst c18
      have H1 : ((some (([] : List (Term)) : List (Term))).bind fun y105 => (if y105.length + l0_1.length < 2513169434916 then (lambrequinlaw09_SafeBinds.l0 kj7 x5_2 (y105 ++ l0_1) 0 a0_0 l0_1 l0_2 a1_0 l1_1) else (none))) = some r := by rw [if_neg (show ¬ (false = true) by decide)] at H; exact H
      clear H
      have H := H1
      clear H1
      obtain ⟨y105, hy105⟩ : ∃ y_ : List (Term), y_ = (([] : List (Term))) := ⟨_, rfl⟩
      replace H : (if y105.length + l0_1.length < 2513169434916 then (lambrequinlaw09_SafeBinds.l0 kj7 x5_2 (y105 ++ l0_1) 0 a0_0 l0_1 l0_2 a1_0 l1_1) else (none)) = some r := by first | (rw [hy105]; with_reducible exact H) | (have H2_ := (Option.bind_some _ _).symm.trans H; rw [hy105]; with_reducible exact H2_) | (have H2_ := (Option.bind_some _ _).symm.trans H; with_reducible exact H2_) | with_reducible exact H | (rw [hy105]; exact H) | exact H
      have Ny105 := Aside0.mk hy105
      clear hy105
      by_cases c19 : y105.length + l0_1.length < 2513169434916
      ·rw [if_pos c19] at H
       have LMc19 := Aside0.mk c19
       clear c19
       obtain ⟨y108, hy108⟩ : ∃ y_ : List (Term), y_ = (y105 ++ l0_1) := ⟨_, rfl⟩
       replace H : (lambrequinlaw09_SafeBinds.l0 kj7 x5_2 y108 0 a0_0 l0_1 l0_2 a1_0 l1_1) = some r := by first | (rw [hy108]; with_reducible exact H) | (have H2_ := (Option.bind_some _ _).symm.trans H; rw [hy108]; with_reducible exact H2_) | (have H2_ := (Option.bind_some _ _).symm.trans H; with_reducible exact H2_) | with_reducible exact H | (rw [hy108]; exact H) | exact H
       have Ny108 := Aside0.mk hy108
       clear hy108
       have H' := Aside0.mk H
       clear H
       go_wp2_with (first | ((with_reducible refine gate_dst (N := 32) rfl ?_); (try (refine gate_guard (by rfl) ?_; dsimp only)); refine Kd.R_lit k45 _ 45 ?hg (N := 32) ?hd (xs := ([] : List (Term))) (inner := []) (ok := fun _ => True) (okp := fun _ => True) ?hr ?hp (fun _ hk => hk) trivial (Below.refl _ _) (Nat.le_refl _) (by simp) ?_; (case hd => rfl); (case hg => rfl); (case hr => first | (go_simp; done) | (go_simp; rfl)); (case hp => exact (Reps.none _ _)); intro v106 w20 ho21 hb hg_ hnew_; clear hg_ hnew_; (first | rw [← Ny105.out] at ho21 | (simp only [Int.reduceToNat] at ho21; rw [← Ny105.out] at ho21)); have n0_ := Aside0.mk (Kd.V_elder' (by (with_reducible repeat (first | apply Kd.V_alloc | apply Kd.V_drewN | apply Kd.V_drew)); exact HO_102002.out) (Kd.R_base ho21) hb); have n1_ := Aside0.mk (Kd.V_elder' (by (with_reducible repeat (first | apply Kd.V_alloc | apply Kd.V_drewN | apply Kd.V_drew)); exact HO_103001.out) (Kd.R_base ho21) hb); have n2_ := Aside0.mk (Kd.R_lower (Kd.R_newM (M := fun k_ => (w.heap.size ≤ k_)) ho21 (below_size (by repeat (first | (with_reducible first | exact HB.out | apply below_alloc | apply pw_below_drewN | apply below_drew1 | refine below_set ?_ GE101.out | refine below_set ?_ GE102.out) | exact HB.out))) (fun k_ h_ => h_)) (below_size (by repeat (first | (with_reducible first | exact HB.out | apply below_alloc | apply pw_below_drewN | apply below_drew1 | refine below_set ?_ GE101.out | refine below_set ?_ GE102.out) | exact HB.out)))); have n3_ := Aside0.mk (blk_below (g := gb101) (o := .cells #[.string a0_0, .slice A0_1 l0_1.length c0_1, .slice A0_2 l0_2.length c0_2] 27 (0, 0)) (by (with_reducible repeat (first | refine blk_drewN ?_ _ | refine blk_drew ?_ | refine blk_alloc ?_ _)); exact BK101.out) hb); have n4_ := Aside0.mk (blk_below (g := gb102) (o := .cells #[.string a1_0, .slice A1_1 l1_1.length c1_1] 24 (0, 0)) (by (with_reducible repeat (first | refine blk_drewN ?_ _ | refine blk_drew ?_ | refine blk_alloc ?_ _)); exact BK102.out) hb); have n5_ := Aside0.mk (below_step (by repeat (first | (with_reducible first | exact HB.out | apply below_alloc | apply pw_below_drewN | apply below_drew1 | refine below_set ?_ GE101.out | refine below_set ?_ GE102.out) | exact HB.out)) hb); clear HO_102002; clear HO_103001; clear BK101; clear BK102; clear HB; have HO_102002 := n0_; have HO_103001 := n1_; have HO107 := n2_; have BK101 := n3_; have BK102 := n4_; have HB := n5_; clear n0_ n1_ n2_ n3_ n4_ n5_; clear hb ho21; have hnb22 := NB101_102.out; have hnc22 := NB102_101.out; have hcz23_0 : w20.cell? ⟨gb101, 0, none⟩ = some (.string a0_0) := (blk_cell BK101.out 0).trans rfl; have hcz23_1 : w20.cell? ⟨gb101, 1, none⟩ = some (.slice A0_1 l0_1.length c0_1) := (blk_cell BK101.out 1).trans rfl; have hcz23_2 : w20.cell? ⟨gb101, 2, none⟩ = some (.slice A0_2 l0_2.length c0_2) := (blk_cell BK101.out 2).trans rfl; have hfz23_0 := blk_frozen BK101.out 0; have hfz23_1 := blk_frozen BK101.out 1; have hfz23_2 := blk_frozen BK101.out 2) | ((with_reducible refine gate_builtin (b := .append) (xs := #[.tmp 32, .tmp 35]) rfl ?_); (try (refine gate_guard (by rfl) ?_; dsimp only)); at_builtin; refine Kd.R_append_rows k45 (w0 := w) w.heap.size rfl (.tmp 32) (.tmp 35) 22 45 (.agg #[(.bool false), (.string ⟨#[]⟩), (.bool false), (.string ⟨#[]⟩), (.int .i64 0)]) 56 rfl Try.underlying22 info45 rfl (by decide) (by omega) v106 y105 l0_1 _ _ _ (fun k_ => (w.heap.size ≤ k_)) (fun _ => False) rfl rfl ?aO ?aR (fun _ _ h => h) (fun _ h => h.elim) ?aF ?aB ?aS ?aL ?_; (case aR => repeat (first | exact (Kd.C_below HR0_1.out HB.out) | (with_reducible refine Kd.C_alloc ?_ _) | (with_reducible refine Kd.C_drewN ?_ _) | (with_reducible refine Kd.C_drew ?_))); (case aB => exact (by repeat (first | (with_reducible first | exact HB.out | apply below_alloc | apply pw_below_drewN | apply below_drew1 | refine below_set ?_ GE101.out | refine below_set ?_ GE102.out) | exact HB.out))); (case aF => exact (fun k_ hk => (Nat.le_trans (below_size (by repeat (first | (with_reducible first | exact HB.out | apply below_alloc | apply pw_below_drewN | apply below_drew1 | refine below_set ?_ GE101.out | refine below_set ?_ GE102.out) | exact HB.out))) hk))); (case aO => exact (by (with_reducible repeat (first | apply Kd.R_alloc | apply Kd.R_drewN | apply Kd.R_drew)); exact Kd.R_mono HO107.out (fun _ hk => hk.1))); (case aS => exact (below_size (by repeat (first | (with_reducible first | exact HB.out | apply below_alloc | apply pw_below_drewN | apply below_drew1 | refine below_set ?_ GE101.out | refine below_set ?_ GE102.out) | exact HB.out)))); (case aL => have := LMc19.out; omega); intro v109 w24 ho hb hg hat; rw [← Ny108.out] at ho; have n0_ := Aside0.mk (Kd.V_afterv (ok := (fun k_ => ((P0_2_ k_ ∨ P1_1_ k_) ∨ w.heap.size ≤ k_) ∧ k_ ≠ gb101 ∧ k_ ≠ gb102)) (by (with_reducible repeat (first | apply Kd.V_alloc | apply Kd.V_drewN | apply Kd.V_drew)); exact HO_102002.out) hg hat); have n1_ := Aside0.mk (Kd.V_afterv (ok := (fun k_ => ((P0_2_ k_ ∨ P1_1_ k_) ∨ w.heap.size ≤ k_) ∧ k_ ≠ gb101 ∧ k_ ≠ gb102)) (by (with_reducible repeat (first | apply Kd.V_alloc | apply Kd.V_drewN | apply Kd.V_drew)); exact HO_103001.out) hg hat); have n2_ := Aside0.mk (blk_grown (g := gb101) (o := .cells #[.string a0_0, .slice A0_1 l0_1.length c0_1, .slice A0_2 l0_2.length c0_2] 27 (0, 0)) (by (with_reducible repeat (first | refine blk_drewN ?_ _ | refine blk_drew ?_ | refine blk_alloc ?_ _)); exact BK101.out) hg (Kd.R_ne HO107.out BK101.out (by decide))); have n3_ := Aside0.mk (blk_grown (g := gb102) (o := .cells #[.string a1_0, .slice A1_1 l1_1.length c1_1] 24 (0, 0)) (by (with_reducible repeat (first | refine blk_drewN ?_ _ | refine blk_drew ?_ | refine blk_alloc ?_ _)); exact BK102.out) hg (Kd.R_ne HO107.out BK102.out (by decide))); have n4_ := Aside0.mk (hb); have n5_ := Aside0.mk (ho); clear HO_102002; clear HO_103001; clear BK101; clear BK102; clear HB; clear HO107; have HO_102002 := n0_; have HO_103001 := n1_; have BK101 := n2_; have BK102 := n3_; have HB := n4_; have HO110 := n5_; clear n0_ n1_ n2_ n3_ n4_ n5_; clear ho hb hg hat))
       go_loopg [6, 7] kj7 (fun kq v6 v7 w' => ∃ (x6_3 : List (Term)) (x7_3 : Int), v7 = .int .i64 x7_3 ∧ Aside0 (lambrequinlaw09_SafeBinds.l0 kq x5_2 x6_3 x7_3 a0_0 l0_1 l0_2 a1_0 l1_1 = some r) ∧ Aside0 (kq ≤ kj7) ∧ Aside0 (Kd.R k45 45 w' w.heap.size (fun k_ => (w.heap.size ≤ k_)) v6 x6_3) ∧ Aside0 (Kd.V k47 47 w' w.heap.size (fun k_ => ((P0_2_ k_ ∨ P1_1_ k_) ∨ w.heap.size ≤ k_) ∧ some k_ ≠ (v6 : Value).ownBlock ∧ k_ ≠ gb101 ∧ k_ ≠ gb102) (.slice A0_2 l0_2.length c0_2) l0_2) ∧ Aside0 (Kd.V k45 45 w' w.heap.size (fun k_ => ((P0_2_ k_ ∨ P1_1_ k_) ∨ w.heap.size ≤ k_) ∧ some k_ ≠ (v6 : Value).ownBlock ∧ k_ ≠ gb101 ∧ k_ ≠ gb102) (.slice A1_1 l1_1.length c1_1) l1_1) ∧ Aside0 (w'.heap[gb101]? = some (.cells #[.string a0_0, (.slice A0_1 l0_1.length c0_1), (.slice A0_2 l0_2.length c0_2)] 27 (0, 0))) ∧ Aside0 (w'.heap[gb102]? = some (.cells #[.string a1_0, (.slice A1_1 l1_1.length c1_1)] 24 (0, 0))) ∧ Aside0 (Below w.heap.size w w'))
       case atStart => exact ⟨(y108), (0), (by first | rfl | (simp; done) | (simp [*]; done)), H', ⟨Nat.le_refl _⟩, ⟨by (with_reducible repeat (first | apply Kd.R_alloc | apply Kd.R_drewN | apply Kd.R_drew)); exact HO110.out⟩, ⟨by (with_reducible repeat (first | apply Kd.V_alloc | apply Kd.V_drewN | apply Kd.V_drew)); exact Kd.V_mono HO_102002.out (fun _ hk => ⟨hk.1.1, ⟨hk.2, ⟨hk.1.2.1, hk.1.2.2⟩⟩⟩)⟩, ⟨by (with_reducible repeat (first | apply Kd.V_alloc | apply Kd.V_drewN | apply Kd.V_drew)); exact Kd.V_mono HO_103001.out (fun _ hk => ⟨hk.1.1, ⟨hk.2, ⟨hk.1.2.1, hk.1.2.2⟩⟩⟩)⟩, ⟨by (with_reducible repeat (first | refine blk_drewN ?_ _ | refine blk_drew ?_ | refine blk_alloc ?_ _)); exact BK101.out⟩, ⟨by (with_reducible repeat (first | refine blk_drewN ?_ _ | refine blk_drew ?_ | refine blk_alloc ?_ _)); exact BK102.out⟩, ⟨by repeat (first | (with_reducible first | exact HB.out | apply below_alloc | apply pw_below_drewN | apply below_drew1 | refine below_set ?_ GE101.out | refine below_set ?_ GE102.out) | exact HB.out)⟩⟩
       case round =>
        clear H'
        try clear c1
        try clear c2
        try clear p2
        try clear c10
        try clear c11
        try clear c15
        try clear c18
        try clear c19
        try clear c22
        try clear hcz12_0
        try clear hcz12_1
        try clear hcz12_2
        try clear hcz14_0
        try clear hcz14_1
        try clear hcz16_0
        try clear hcz16_1
        try clear hcz16_2
        try clear hcz23_0
        try clear hcz23_1
        try clear hcz23_2
        try clear hfz12_0
        try clear hfz12_1
        try clear hfz12_2
        try clear hfz14_0
        try clear hfz14_1
        try clear hfz16_0
        try clear hfz16_1
        try clear hfz16_2
        try clear hfz23_0
        try clear hfz23_1
        try clear hfz23_2
        try clear p2
        obtain ⟨x6_3, x7_3, rfl, HA, HK3, HO_6, HO_102002, HO_103001, BK101, BK102, HB⟩ := hrel
        cases gk with
        | zero => exact absurd HA.out (by simp [lambrequinlaw09_SafeBinds.l0])
        | succ k3 =>
         have H := HA.out
         clear HA
         simp only [lambrequinlaw09_SafeBinds.l0] at H
         by_cases c25 : x7_3 < (l0_2.length : Int)
         ·rw [if_pos c25] at H
          have c25b0 : decide (x7_3 < (l0_2.length : Int)) = true := decide_eq_true c25
          clear c25
          by_cases c26 : 0 ≤ x7_3
          ·rw [if_pos c26] at H
           have c26b0 : decide (0 ≤ x7_3) = true := decide_eq_true c26
           clear c26
           obtain ⟨y113, hy113⟩ : ∃ y_ : List (Term), y_ = (([(⟨(rd_T47 l0_2 x7_3).l.isVar, (rd_T47 l0_2 x7_3).l.name, (⟨(rd_T47 l0_2 x7_3).l.val.isSym, (rd_T47 l0_2 x7_3).l.val.sym, (rd_T47 l0_2 x7_3).l.val.n⟩ : Val)⟩ : Term), (⟨(rd_T47 l0_2 x7_3).r.isVar, (rd_T47 l0_2 x7_3).r.name, (⟨(rd_T47 l0_2 x7_3).r.val.isSym, (rd_T47 l0_2 x7_3).r.val.sym, (rd_T47 l0_2 x7_3).r.val.n⟩ : Val)⟩ : Term)] : List (Term))) := ⟨_, rfl⟩
           replace H : (if x6_3.length + y113.length < 2513169434916 then ((some (x6_3 ++ y113 : List (Term))).bind fun y116 => (if y116.length + ((rd_T47 l0_2 x7_3).atom.args).length < 2513169434916 then (lambrequinlaw09_SafeBinds.l0 k3 x5_2 (y116 ++ ((rd_T47 l0_2 x7_3).atom.args)) (wrap64 (x7_3 + 1)) a0_0 l0_1 l0_2 a1_0 l1_1) else (none))) else (none)) = some r := by first | (rw [hy113]; with_reducible exact H) | (have H2_ := (Option.bind_some _ _).symm.trans H; rw [hy113]; with_reducible exact H2_) | (have H2_ := (Option.bind_some _ _).symm.trans H; with_reducible exact H2_) | with_reducible exact H | (rw [hy113]; exact H) | exact H
           have Ny113 := Aside0.mk hy113
           clear hy113
           by_cases c27 : x6_3.length + y113.length < 2513169434916
           ·rw [if_pos c27] at H
            have LMc27 := Aside0.mk c27
            clear c27
            obtain ⟨y116, hy116⟩ : ∃ y_ : List (Term), y_ = (x6_3 ++ y113) := ⟨_, rfl⟩
            replace H : (if y116.length + ((rd_T47 l0_2 x7_3).atom.args).length < 2513169434916 then (lambrequinlaw09_SafeBinds.l0 k3 x5_2 (y116 ++ ((rd_T47 l0_2 x7_3).atom.args)) (wrap64 (x7_3 + 1)) a0_0 l0_1 l0_2 a1_0 l1_1) else (none)) = some r := by first | (rw [hy116]; with_reducible exact H) | (have H2_ := (Option.bind_some _ _).symm.trans H; rw [hy116]; with_reducible exact H2_) | (have H2_ := (Option.bind_some _ _).symm.trans H; with_reducible exact H2_) | with_reducible exact H | (rw [hy116]; exact H) | exact H
            have Ny116 := Aside0.mk hy116
            clear hy116
            by_cases c28 : y116.length + ((rd_T47 l0_2 x7_3).atom.args).length < 2513169434916
            ·rw [if_pos c28] at H
             have LMc28 := Aside0.mk c28
             clear c28
             obtain ⟨y120, hy120⟩ : ∃ y_ : List (Term), y_ = (y116 ++ ((rd_T47 l0_2 x7_3).atom.args)) := ⟨_, rfl⟩
             replace H : (lambrequinlaw09_SafeBinds.l0 k3 x5_2 y120 (wrap64 (x7_3 + 1)) a0_0 l0_1 l0_2 a1_0 l1_1) = some r := by first | (rw [hy120]; with_reducible exact H) | (have H2_ := (Option.bind_some _ _).symm.trans H; rw [hy120]; with_reducible exact H2_) | (have H2_ := (Option.bind_some _ _).symm.trans H; with_reducible exact H2_) | with_reducible exact H | (rw [hy120]; exact H) | exact H
             have Ny120 := Aside0.mk hy120
             clear hy120
             have H' := Aside0.mk H
             clear H
             have hnb29 := NB101_102.out
             have hnc29 := NB102_101.out
             have hcz30_0 : wr.cell? ⟨gb101, 0, none⟩ = some (.string a0_0) := (blk_cell BK101.out 0).trans rfl
             have hcz30_1 : wr.cell? ⟨gb101, 1, none⟩ = some (.slice A0_1 l0_1.length c0_1) := (blk_cell BK101.out 1).trans rfl
             have hcz30_2 : wr.cell? ⟨gb101, 2, none⟩ = some (.slice A0_2 l0_2.length c0_2) := (blk_cell BK101.out 2).trans rfl
             have hfz30_0 := blk_frozen BK101.out 0
             have hfz30_1 := blk_frozen BK101.out 1
             have hfz30_2 := blk_frozen BK101.out 2
             try go_wp2
             have n0_ := Aside0.mk (Kd.R_drew HO_6.out)
             have n1_ := Aside0.mk (Kd.V_drew HO_102002.out)
             have n2_ := Aside0.mk (Kd.V_drew HO_103001.out)
             have n3_ := Aside0.mk (blk_drew BK101.out)
             have n4_ := Aside0.mk (blk_drew BK102.out)
             have n5_ := Aside0.mk (below_drew1 HB.out)
             clear HO_6
             clear HO_102002
             clear HO_103001
             clear BK101
             clear BK102
             clear HB
             have HO_6 := n0_
             have HO_102002 := n1_
             have HO_103001 := n2_
             have BK101 := n3_
             have BK102 := n4_
             have HB := n5_
             clear n0_ n1_ n2_ n3_ n4_ n5_
             have p111 : 0 ≤ (x7_3 : Int) := of_decide_eq_true (by first | (with_reducible assumption) | assumption)
             have q111 : x7_3 < (l0_2.length : Int) := of_decide_eq_true (by first | (with_reducible assumption) | assumption)
             obtain ⟨ad111, A111_2, c111_2, e111, hx111_0, hx111_1, hx111_2, hx111_3, hx111_4, hx111_5, hx111_6, hx111_7, hx111_8, hx111_9, hx111_10, hx111_11, hx111_12, hx111_13, hl111_2, hi111_2⟩ := at_T47 (Kd.V_reads' HO_102002.out).2.2 x7_3 p111 q111
             cases e111
             obtain ⟨ce111, hce111, hMe111, hcc111⟩ := Kd.V_get HO_102002.out z47 x7_3 p111 (by first | exact q111 | exact of_decide_eq_true (by first | (with_reducible assumption) | assumption) | (have e_ := (Kd.V_reads' HO_102002.out).1; omega))
             obtain ⟨ua111_2, uc111_2, rfl, ul111_2, ge111_2⟩ := k47_openF hMe111
             have hv111_2 := hcc111 2 _ rfl
             rw [add_field _ _ 2 (by omega)] at hv111_2
             replace hv111_2 := Option.some.inj (hv111_2.symm.trans hx111_2)
             injection hv111_2 with hva_ hvn_ hvc_
             rw [hva_] at ge111_2
             rw [hvc_] at ul111_2
             have HL111_2 := Aside0.mk (show Kd.V k45 45 _ w.heap.size _ _ ((rd_T47 l0_2 x7_3).atom.args) from Kd.V_mk ul111_2 ge111_2)
             clear hva_ hvn_ hvc_ ge111_2 ul111_2
             clear hcc111 hce111
             have HR111_2 := Aside0.mk hi111_2
             have HC111_2 := Aside0.mk hl111_2
             clear hi111_2 hl111_2
             replace p111 := eq_true p111
             replace q111 := eq_true q111
             have p112 : 0 ≤ (x7_3 : Int) := of_decide_eq_true (by first | (with_reducible assumption) | assumption)
             have q112 : x7_3 < (l0_2.length : Int) := of_decide_eq_true (by first | (with_reducible assumption) | assumption)
             obtain ⟨ad112, A112_2, c112_2, e112, hx112_0, hx112_1, hx112_2, hx112_3, hx112_4, hx112_5, hx112_6, hx112_7, hx112_8, hx112_9, hx112_10, hx112_11, hx112_12, hx112_13, hl112_2, hi112_2⟩ := at_T47 (Kd.V_reads' HO_102002.out).2.2 x7_3 p112 q112
             obtain rfl : ad111 = ad112 := (by injection e112)
             obtain ⟨ce112, hce112, hMe112, hcc112⟩ := Kd.V_get HO_102002.out z47 x7_3 p112 (by first | exact q112 | exact of_decide_eq_true (by first | (with_reducible assumption) | assumption) | (have e_ := (Kd.V_reads' HO_102002.out).1; omega))
             obtain ⟨ua112_2, uc112_2, rfl, ul112_2, ge112_2⟩ := k47_openF hMe112
             have hv112_2 := hcc112 2 _ rfl
             rw [add_field _ _ 2 (by omega)] at hv112_2
             replace hv112_2 := Option.some.inj (hv112_2.symm.trans hx112_2)
             injection hv112_2 with hva_ hvn_ hvc_
             rw [hva_] at ge112_2
             rw [hvc_] at ul112_2
             have HL112_2 := Aside0.mk (show Kd.V k45 45 _ w.heap.size _ _ ((rd_T47 l0_2 x7_3).atom.args) from Kd.V_mk ul112_2 ge112_2)
             clear hva_ hvn_ hvc_ ge112_2 ul112_2
             clear hcc112 hce112
             have HR112_2 := Aside0.mk hi112_2
             have HC112_2 := Aside0.mk hl112_2
             clear hi112_2 hl112_2
             replace p112 := eq_true p112
             replace q112 := eq_true q112
             have ea_ := Option.some.inj (hx111_2.symm.trans hx112_2)
             injection ea_ with ea_ en_ ec_
             subst ea_
             subst ec_
             clear en_
             refine start_ (n := 16) (S := fun w' => w'.cell? ⟨gb101, 0, none⟩ = some (.string a0_0) ∧ w'.cell? ⟨gb101, 1, none⟩ = some (.slice A0_1 l0_1.length c0_1) ∧ w'.cell? ⟨gb101, 2, none⟩ = some (.slice (some ad111) l0_2.length c0_2) ∧ w'.cell? (ad111.add ((x7_3).toNat * 14)) = some (.int .i64 ((rd_T47 l0_2 x7_3).kind)) ∧ w'.cell? ⟨(ad111.add ((x7_3).toNat * 14)).block, (ad111.add ((x7_3).toNat * 14)).off + 1, none⟩ = some (.string ((rd_T47 l0_2 x7_3).atom.pred)) ∧ w'.cell? ⟨(ad111.add ((x7_3).toNat * 14)).block, (ad111.add ((x7_3).toNat * 14)).off + 2, none⟩ = some (.slice A111_2 ((rd_T47 l0_2 x7_3).atom.args).length c111_2) ∧ w'.cell? ⟨(ad111.add ((x7_3).toNat * 14)).block, (ad111.add ((x7_3).toNat * 14)).off + 3, none⟩ = some (.string ((rd_T47 l0_2 x7_3).op)) ∧ w'.cell? ⟨(ad111.add ((x7_3).toNat * 14)).block, (ad111.add ((x7_3).toNat * 14)).off + 4, none⟩ = some (.bool ((rd_T47 l0_2 x7_3).l.isVar)) ∧ w'.cell? ⟨(ad111.add ((x7_3).toNat * 14)).block, (ad111.add ((x7_3).toNat * 14)).off + 5, none⟩ = some (.string ((rd_T47 l0_2 x7_3).l.name)) ∧ w'.cell? ⟨(ad111.add ((x7_3).toNat * 14)).block, (ad111.add ((x7_3).toNat * 14)).off + 6, none⟩ = some (.bool ((rd_T47 l0_2 x7_3).l.val.isSym)) ∧ w'.cell? ⟨(ad111.add ((x7_3).toNat * 14)).block, (ad111.add ((x7_3).toNat * 14)).off + 7, none⟩ = some (.string ((rd_T47 l0_2 x7_3).l.val.sym)) ∧ w'.cell? ⟨(ad111.add ((x7_3).toNat * 14)).block, (ad111.add ((x7_3).toNat * 14)).off + 8, none⟩ = some (.int .i64 ((rd_T47 l0_2 x7_3).l.val.n)) ∧ w'.cell? ⟨(ad111.add ((x7_3).toNat * 14)).block, (ad111.add ((x7_3).toNat * 14)).off + 9, none⟩ = some (.bool ((rd_T47 l0_2 x7_3).r.isVar)) ∧ w'.cell? ⟨(ad111.add ((x7_3).toNat * 14)).block, (ad111.add ((x7_3).toNat * 14)).off + 10, none⟩ = some (.string ((rd_T47 l0_2 x7_3).r.name)) ∧ w'.cell? ⟨(ad111.add ((x7_3).toNat * 14)).block, (ad111.add ((x7_3).toNat * 14)).off + 11, none⟩ = some (.bool ((rd_T47 l0_2 x7_3).r.val.isSym)) ∧ w'.cell? ⟨(ad111.add ((x7_3).toNat * 14)).block, (ad111.add ((x7_3).toNat * 14)).off + 12, none⟩ = some (.string ((rd_T47 l0_2 x7_3).r.val.sym)) ∧ w'.cell? ⟨(ad111.add ((x7_3).toNat * 14)).block, (ad111.add ((x7_3).toNat * 14)).off + 13, none⟩ = some (.int .i64 ((rd_T47 l0_2 x7_3).r.val.n)) ∧ w'.cell? (ad111.add ((x7_3).toNat * 14)) = some (.int .i64 ((rd_T47 l0_2 x7_3).kind)) ∧ w'.cell? ⟨(ad111.add ((x7_3).toNat * 14)).block, (ad111.add ((x7_3).toNat * 14)).off + 1, none⟩ = some (.string ((rd_T47 l0_2 x7_3).atom.pred)) ∧ w'.cell? ⟨(ad111.add ((x7_3).toNat * 14)).block, (ad111.add ((x7_3).toNat * 14)).off + 2, none⟩ = some (.slice A111_2 ((rd_T47 l0_2 x7_3).atom.args).length c111_2) ∧ w'.cell? ⟨(ad111.add ((x7_3).toNat * 14)).block, (ad111.add ((x7_3).toNat * 14)).off + 3, none⟩ = some (.string ((rd_T47 l0_2 x7_3).op)) ∧ w'.cell? ⟨(ad111.add ((x7_3).toNat * 14)).block, (ad111.add ((x7_3).toNat * 14)).off + 4, none⟩ = some (.bool ((rd_T47 l0_2 x7_3).l.isVar)) ∧ w'.cell? ⟨(ad111.add ((x7_3).toNat * 14)).block, (ad111.add ((x7_3).toNat * 14)).off + 5, none⟩ = some (.string ((rd_T47 l0_2 x7_3).l.name)) ∧ w'.cell? ⟨(ad111.add ((x7_3).toNat * 14)).block, (ad111.add ((x7_3).toNat * 14)).off + 6, none⟩ = some (.bool ((rd_T47 l0_2 x7_3).l.val.isSym)) ∧ w'.cell? ⟨(ad111.add ((x7_3).toNat * 14)).block, (ad111.add ((x7_3).toNat * 14)).off + 7, none⟩ = some (.string ((rd_T47 l0_2 x7_3).l.val.sym)) ∧ w'.cell? ⟨(ad111.add ((x7_3).toNat * 14)).block, (ad111.add ((x7_3).toNat * 14)).off + 8, none⟩ = some (.int .i64 ((rd_T47 l0_2 x7_3).l.val.n)) ∧ w'.cell? ⟨(ad111.add ((x7_3).toNat * 14)).block, (ad111.add ((x7_3).toNat * 14)).off + 9, none⟩ = some (.bool ((rd_T47 l0_2 x7_3).r.isVar)) ∧ w'.cell? ⟨(ad111.add ((x7_3).toNat * 14)).block, (ad111.add ((x7_3).toNat * 14)).off + 10, none⟩ = some (.string ((rd_T47 l0_2 x7_3).r.name)) ∧ w'.cell? ⟨(ad111.add ((x7_3).toNat * 14)).block, (ad111.add ((x7_3).toNat * 14)).off + 11, none⟩ = some (.bool ((rd_T47 l0_2 x7_3).r.val.isSym)) ∧ w'.cell? ⟨(ad111.add ((x7_3).toNat * 14)).block, (ad111.add ((x7_3).toNat * 14)).off + 12, none⟩ = some (.string ((rd_T47 l0_2 x7_3).r.val.sym)) ∧ w'.cell? ⟨(ad111.add ((x7_3).toNat * 14)).block, (ad111.add ((x7_3).toNat * 14)).off + 13, none⟩ = some (.int .i64 ((rd_T47 l0_2 x7_3).r.val.n))) (ds := [14]) #[ff,ff,ff,ff,ff,ff,ff,ff,ff,ff,ff,ff,ff,ff,ff,ff] (by kernel_rfl) rfl rfl ⟨(blk_cell BK101.out 0).trans rfl, (blk_cell BK101.out 1).trans rfl, (blk_cell BK101.out 2).trans rfl, hx111_0, hx111_1, hx111_2, hx111_3, hx111_4, hx111_5, hx111_6, hx111_7, hx111_8, hx111_9, hx111_10, hx111_11, hx111_12, hx111_13, hx112_0, hx112_1, hx112_2, hx112_3, hx112_4, hx112_5, hx112_6, hx112_7, hx112_8, hx112_9, hx112_10, hx112_11, hx112_12, hx112_13⟩ (fun hHeld => ?_); refine with_tabW lambrequinlaw09_SafeBinds.tab8 lambrequinlaw09_SafeBinds.bits8 (fun HT_ HW_ => ?_)
             generalize wr.drew = w31 at HO_6 HO_102002 HO_103001 BK101 BK102 HB HL111_2 HL112_2 HR111_2 HR112_2 hx111_0 hx111_1 hx111_10 hx111_11 hx111_12 hx111_13 hx111_2 hx111_3 hx111_4 hx111_5 hx111_6 hx111_7 hx111_8 hx111_9 hx112_0 hx112_1 hx112_10 hx112_11 hx112_12 hx112_13 hx112_2 hx112_3 hx112_4 hx112_5 hx112_6 hx112_7 hx112_8 hx112_9 hHeld ⊢
             refine pure_ (i := 0) (N := some 44) (v := ?_) (a' := ?_) #[tt,ff,ff,ff,ff,ff,ff,ff,ff,ff,ff,ff,ff,ff,ff,ff] rfl rfl (any_of HT_.out (by kernel_rfl)) (fun _ _ _ h => h) (Or.inl ⟨by rfl, ?_⟩) ?_ ?_
             rotate_left
             ·intro w'
              go_simp
              with_reducible rfl
             rotate_left
             ·simp only [Act.put, List.setIfInBounds_toArray, List.set_cons_zero, List.set_cons_succ, i64_w, i32_w]
              rfl
             refine pure_ (i := 1) (N := some 45) (v := ?_) (a' := ?_) #[tt,tt,ff,ff,ff,ff,ff,ff,ff,ff,ff,ff,ff,ff,ff,ff] rfl rfl (any_of HT_.out (by kernel_rfl)) (fun _ _ _ h => h) (Or.inl ⟨by rfl, ?_⟩) ?_ ?_
             rotate_left
             ·intro w'
              go_simp
              with_reducible rfl
             rotate_left
             ·simp only [Act.put, List.setIfInBounds_toArray, List.set_cons_zero, List.set_cons_succ, i64_w, i32_w]
              rfl
             refine pure_ (i := 3) (N := some 47) (v := ?_) (a' := ?_) #[tt,tt,ff,tt,ff,ff,ff,ff,ff,ff,ff,ff,ff,ff,ff,ff] rfl rfl (any_of HT_.out (by kernel_rfl)) (fun _ _ _ h => h) (Or.inl ⟨by rfl, ?_⟩) ?_ ?_
             rotate_left
             ·intro w'
              go_simp
              with_reducible rfl
             rotate_left
             ·simp only [Act.put, List.setIfInBounds_toArray, List.set_cons_zero, List.set_cons_succ, i64_w, i32_w]
              rfl
             refine pure_ (i := 7) (N := some 51) (v := ?_) (a' := ?_) #[tt,tt,ff,tt,ff,ff,ff,tt,ff,ff,ff,ff,ff,ff,ff,ff] rfl rfl (any_of HT_.out (by kernel_rfl)) (fun _ _ _ h => h) (Or.inl ⟨by rfl, ?_⟩) ?_ ?_
             rotate_left
             ·intro w'
              go_simp
              with_reducible rfl
             rotate_left
             ·simp only [Act.put, List.setIfInBounds_toArray, List.set_cons_zero, List.set_cons_succ, i64_w, i32_w]
              rfl
             refine pure_ (i := 9) (N := some 53) (v := ?_) (a' := ?_) #[tt,tt,ff,tt,ff,ff,ff,tt,ff,tt,ff,ff,ff,ff,ff,ff] rfl rfl (any_of HT_.out (by kernel_rfl)) (fun _ _ _ h => h) (Or.inl ⟨by rfl, ?_⟩) ?_ ?_
             rotate_left
             ·intro w'
              go_simp
              with_reducible rfl
             rotate_left
             ·simp only [Act.put, List.setIfInBounds_toArray, List.set_cons_zero, List.set_cons_succ, i64_w, i32_w]
              rfl
             refine take_ (i := 2) (N := some 46) (v := ?_) (a' := ?_) #[tt,tt,tt,tt,ff,ff,ff,tt,ff,tt,ff,ff,ff,ff,ff,ff] rfl rfl (take_ofW HT_.out HW_.out (by kernel_rfl)) (fun _ _ _ h => h) (Or.inl ⟨by rfl, ?_⟩) hHeld ?_ ?_
             rotate_left
             ·rintro w' ⟨s0, s1, s2, s3, s4, s5, s6, s7, s8, s9, s10, s11, s12, s13, s14, s15, s16, s17, s18, s19, s20, s21, s22, s23, s24, s25, s26, s27, s28, s29, s30⟩
              go_simp
              with_reducible rfl
             rotate_left
             ·simp only [Act.put, List.setIfInBounds_toArray, List.set_cons_zero, List.set_cons_succ, i64_w, i32_w]
              rfl
             refine pure_ (i := 4) (N := some 48) (v := ?_) (a' := ?_) #[tt,tt,tt,tt,tt,ff,ff,tt,ff,tt,ff,ff,ff,ff,ff,ff] rfl rfl (any_of HT_.out (by kernel_rfl)) (fun _ _ _ h => h) (Or.inl ⟨by rfl, ?_⟩) ?_ ?_
             rotate_left
             ·intro w'
              go_simp
              with_reducible rfl
             rotate_left
             ·simp only [Act.put, List.setIfInBounds_toArray, List.set_cons_zero, List.set_cons_succ, i64_w, i32_w]
              rfl
             refine pure_ (i := 5) (N := some 49) (v := ?_) (a' := ?_) #[tt,tt,tt,tt,tt,tt,ff,tt,ff,tt,ff,ff,ff,ff,ff,ff] rfl rfl (any_of HT_.out (by kernel_rfl)) (fun _ _ _ h => h) (Or.inl ⟨by rfl, ?_⟩) ?_ ?_
             rotate_left
             ·intro w'
              go_simp
              with_reducible rfl
             rotate_left
             ·simp only [Act.put, List.setIfInBounds_toArray, List.set_cons_zero, List.set_cons_succ, i64_w, i32_w]
              rfl
             refine take_ (i := 6) (N := some 50) (v := ?_) (a' := ?_) #[tt,tt,tt,tt,tt,tt,tt,tt,ff,tt,ff,ff,ff,ff,ff,ff] rfl rfl (take_ofW HT_.out HW_.out (by kernel_rfl)) (fun _ _ _ h => h) (Or.inl ⟨by rfl, ?_⟩) hHeld ?_ ?_
             rotate_left
             ·rintro w' ⟨s0, s1, s2, s3, s4, s5, s6, s7, s8, s9, s10, s11, s12, s13, s14, s15, s16, s17, s18, s19, s20, s21, s22, s23, s24, s25, s26, s27, s28, s29, s30⟩
              go_simp
              with_reducible rfl
             rotate_left
             ·simp only [Act.put, List.setIfInBounds_toArray, List.set_cons_zero, List.set_cons_succ, i64_w, i32_w]
              rfl
             refine take_ (i := 8) (N := some 52) (v := ?_) (a' := ?_) #[tt,tt,tt,tt,tt,tt,tt,tt,tt,tt,ff,ff,ff,ff,ff,ff] rfl rfl (take_ofW HT_.out HW_.out (by kernel_rfl)) (fun _ _ _ h => h) (Or.inl ⟨by rfl, ?_⟩) hHeld ?_ ?_
             rotate_left
             ·rintro w' ⟨s0, s1, s2, s3, s4, s5, s6, s7, s8, s9, s10, s11, s12, s13, s14, s15, s16, s17, s18, s19, s20, s21, s22, s23, s24, s25, s26, s27, s28, s29, s30⟩
              go_simp
              with_reducible rfl
             rotate_left
             ·simp only [Act.put, List.setIfInBounds_toArray, List.set_cons_zero, List.set_cons_succ, i64_w, i32_w]
              rfl
             refine pure_ (i := 10) (N := some 54) (v := ?_) (a' := ?_) #[tt,tt,tt,tt,tt,tt,tt,tt,tt,tt,tt,ff,ff,ff,ff,ff] rfl rfl (any_of HT_.out (by kernel_rfl)) (fun _ _ _ h => h) (Or.inl ⟨by rfl, ?_⟩) ?_ ?_
             rotate_left
             ·intro w'
              go_simp
              with_reducible rfl
             rotate_left
             ·simp only [Act.put, List.setIfInBounds_toArray, List.set_cons_zero, List.set_cons_succ, i64_w, i32_w]
              rfl
             refine pure_ (i := 11) (N := some 55) (v := ?_) (a' := ?_) #[tt,tt,tt,tt,tt,tt,tt,tt,tt,tt,tt,tt,ff,ff,ff,ff] rfl rfl (any_of HT_.out (by kernel_rfl)) (fun _ _ _ h => h) (Or.inl ⟨by rfl, ?_⟩) ?_ ?_
             rotate_left
             ·intro w'
              go_simp
              with_reducible rfl
             rotate_left
             ·simp only [Act.put, List.setIfInBounds_toArray, List.set_cons_zero, List.set_cons_succ, i64_w, i32_w]
              rfl
             refine take_ (i := 12) (N := some 56) (v := ?_) (a' := ?_) #[tt,tt,tt,tt,tt,tt,tt,tt,tt,tt,tt,tt,tt,ff,ff,ff] rfl rfl (take_ofW HT_.out HW_.out (by kernel_rfl)) (fun _ _ _ h => h) (Or.inl ⟨by rfl, ?_⟩) hHeld ?_ ?_
             rotate_left
             ·rintro w' ⟨s0, s1, s2, s3, s4, s5, s6, s7, s8, s9, s10, s11, s12, s13, s14, s15, s16, s17, s18, s19, s20, s21, s22, s23, s24, s25, s26, s27, s28, s29, s30⟩
              go_simp
              with_reducible rfl
             rotate_left
             ·simp only [Act.put, List.setIfInBounds_toArray, List.set_cons_zero, List.set_cons_succ, i64_w, i32_w]
              rfl
             refine one_ (i := 13) (N := some 57) #[tt,tt,tt,tt,tt,tt,tt,tt,tt,tt,tt,tt,tt,tt,ff,ff] rfl rfl (one_of HT_.out (by kernel_rfl)) (by decide) (fun K hK => ?_)
             refine Kd.R_lit_step k45 _ 45 ?hg (N := 57) ?hd (xs := ([(⟨(rd_T47 l0_2 x7_3).l.isVar, (rd_T47 l0_2 x7_3).l.name, (⟨(rd_T47 l0_2 x7_3).l.val.isSym, (rd_T47 l0_2 x7_3).l.val.sym, (rd_T47 l0_2 x7_3).l.val.n⟩ : Val)⟩ : Term), (⟨(rd_T47 l0_2 x7_3).r.isVar, (rd_T47 l0_2 x7_3).r.name, (⟨(rd_T47 l0_2 x7_3).r.val.isSym, (rd_T47 l0_2 x7_3).r.val.sym, (rd_T47 l0_2 x7_3).r.val.n⟩ : Val)⟩ : Term)] : List (Term))) (inner := [.bool ((rd_T47 l0_2 x7_3).l.isVar), .string ((rd_T47 l0_2 x7_3).l.name), .bool ((rd_T47 l0_2 x7_3).l.val.isSym), .string ((rd_T47 l0_2 x7_3).l.val.sym), .int .i64 ((rd_T47 l0_2 x7_3).l.val.n), .bool ((rd_T47 l0_2 x7_3).r.isVar), .string ((rd_T47 l0_2 x7_3).r.name), .bool ((rd_T47 l0_2 x7_3).r.val.isSym), .string ((rd_T47 l0_2 x7_3).r.val.sym), .int .i64 ((rd_T47 l0_2 x7_3).r.val.n)]) (ok := fun _ => True) (okp := fun _ => True) ?hr ?hp (fun _ hk => hk) trivial (Below.refl _ _) (Nat.le_refl _) (by simp) ?_; (case hd => rfl); (case hg => rfl); (case hr => first | (go_simp; done) | (go_simp; rfl)); (case hp => exact (Reps.c5 (show Kd.M k45 _ _ _ (⟨(rd_T47 l0_2 x7_3).l.isVar, (rd_T47 l0_2 x7_3).l.name, (⟨(rd_T47 l0_2 x7_3).l.val.isSym, (rd_T47 l0_2 x7_3).l.val.sym, (rd_T47 l0_2 x7_3).l.val.n⟩ : Val)⟩ : Term) [.bool ((rd_T47 l0_2 x7_3).l.isVar), .string ((rd_T47 l0_2 x7_3).l.name), .bool ((rd_T47 l0_2 x7_3).l.val.isSym), .string ((rd_T47 l0_2 x7_3).l.val.sym), .int .i64 ((rd_T47 l0_2 x7_3).l.val.n)] from (k45_mkM _ _ _ (⟨(rd_T47 l0_2 x7_3).l.isVar, (rd_T47 l0_2 x7_3).l.name, (⟨(rd_T47 l0_2 x7_3).l.val.isSym, (rd_T47 l0_2 x7_3).l.val.sym, (rd_T47 l0_2 x7_3).l.val.n⟩ : Val)⟩ : Term) )) (Reps.c5 (show Kd.M k45 _ _ _ (⟨(rd_T47 l0_2 x7_3).r.isVar, (rd_T47 l0_2 x7_3).r.name, (⟨(rd_T47 l0_2 x7_3).r.val.isSym, (rd_T47 l0_2 x7_3).r.val.sym, (rd_T47 l0_2 x7_3).r.val.n⟩ : Val)⟩ : Term) [.bool ((rd_T47 l0_2 x7_3).r.isVar), .string ((rd_T47 l0_2 x7_3).r.name), .bool ((rd_T47 l0_2 x7_3).r.val.isSym), .string ((rd_T47 l0_2 x7_3).r.val.sym), .int .i64 ((rd_T47 l0_2 x7_3).r.val.n)] from (k45_mkM _ _ _ (⟨(rd_T47 l0_2 x7_3).r.isVar, (rd_T47 l0_2 x7_3).r.name, (⟨(rd_T47 l0_2 x7_3).r.val.isSym, (rd_T47 l0_2 x7_3).r.val.sym, (rd_T47 l0_2 x7_3).r.val.n⟩ : Val)⟩ : Term) )) (Reps.none _ _))))
             intro v114 w32 ho33 hb hg_ hnew_
             have HS3_ := (hb.cell (blt_ (hHeld.2.2.2.1))).trans (hHeld.2.2.2.1)
             have HS4_ := (hb.cell (blt_ (hHeld.2.2.2.2.1))).trans (hHeld.2.2.2.2.1)
             have HS5_ := (hb.cell (blt_ (hHeld.2.2.2.2.2.1))).trans (hHeld.2.2.2.2.2.1)
             have HS6_ := (hb.cell (blt_ (hHeld.2.2.2.2.2.2.1))).trans (hHeld.2.2.2.2.2.2.1)
             have HS7_ := (hb.cell (blt_ (hHeld.2.2.2.2.2.2.2.1))).trans (hHeld.2.2.2.2.2.2.2.1)
             have HS8_ := (hb.cell (blt_ (hHeld.2.2.2.2.2.2.2.2.1))).trans (hHeld.2.2.2.2.2.2.2.2.1)
             have HS9_ := (hb.cell (blt_ (hHeld.2.2.2.2.2.2.2.2.2.1))).trans (hHeld.2.2.2.2.2.2.2.2.2.1)
             have HS10_ := (hb.cell (blt_ (hHeld.2.2.2.2.2.2.2.2.2.2.1))).trans (hHeld.2.2.2.2.2.2.2.2.2.2.1)
             have HS11_ := (hb.cell (blt_ (hHeld.2.2.2.2.2.2.2.2.2.2.2.1))).trans (hHeld.2.2.2.2.2.2.2.2.2.2.2.1)
             have HS12_ := (hb.cell (blt_ (hHeld.2.2.2.2.2.2.2.2.2.2.2.2.1))).trans (hHeld.2.2.2.2.2.2.2.2.2.2.2.2.1)
             have HS13_ := (hb.cell (blt_ (hHeld.2.2.2.2.2.2.2.2.2.2.2.2.2.1))).trans (hHeld.2.2.2.2.2.2.2.2.2.2.2.2.2.1)
             have HS14_ := (hb.cell (blt_ (hHeld.2.2.2.2.2.2.2.2.2.2.2.2.2.2.1))).trans (hHeld.2.2.2.2.2.2.2.2.2.2.2.2.2.2.1)
             have HS15_ := (hb.cell (blt_ (hHeld.2.2.2.2.2.2.2.2.2.2.2.2.2.2.2.1))).trans (hHeld.2.2.2.2.2.2.2.2.2.2.2.2.2.2.2.1)
             have HS16_ := (hb.cell (blt_ (hHeld.2.2.2.2.2.2.2.2.2.2.2.2.2.2.2.2.1))).trans (hHeld.2.2.2.2.2.2.2.2.2.2.2.2.2.2.2.2.1)
             have HS17_ := (hb.cell (blt_ (hHeld.2.2.2.2.2.2.2.2.2.2.2.2.2.2.2.2.2.1))).trans (hHeld.2.2.2.2.2.2.2.2.2.2.2.2.2.2.2.2.2.1)
             have HS18_ := (hb.cell (blt_ (hHeld.2.2.2.2.2.2.2.2.2.2.2.2.2.2.2.2.2.2.1))).trans (hHeld.2.2.2.2.2.2.2.2.2.2.2.2.2.2.2.2.2.2.1)
             have HS19_ := (hb.cell (blt_ (hHeld.2.2.2.2.2.2.2.2.2.2.2.2.2.2.2.2.2.2.2.1))).trans (hHeld.2.2.2.2.2.2.2.2.2.2.2.2.2.2.2.2.2.2.2.1)
             have HS20_ := (hb.cell (blt_ (hHeld.2.2.2.2.2.2.2.2.2.2.2.2.2.2.2.2.2.2.2.2.1))).trans (hHeld.2.2.2.2.2.2.2.2.2.2.2.2.2.2.2.2.2.2.2.2.1)
             have HS21_ := (hb.cell (blt_ (hHeld.2.2.2.2.2.2.2.2.2.2.2.2.2.2.2.2.2.2.2.2.2.1))).trans (hHeld.2.2.2.2.2.2.2.2.2.2.2.2.2.2.2.2.2.2.2.2.2.1)
             have HS22_ := (hb.cell (blt_ (hHeld.2.2.2.2.2.2.2.2.2.2.2.2.2.2.2.2.2.2.2.2.2.2.1))).trans (hHeld.2.2.2.2.2.2.2.2.2.2.2.2.2.2.2.2.2.2.2.2.2.2.1)
             have HS23_ := (hb.cell (blt_ (hHeld.2.2.2.2.2.2.2.2.2.2.2.2.2.2.2.2.2.2.2.2.2.2.2.1))).trans (hHeld.2.2.2.2.2.2.2.2.2.2.2.2.2.2.2.2.2.2.2.2.2.2.2.1)
             have HS24_ := (hb.cell (blt_ (hHeld.2.2.2.2.2.2.2.2.2.2.2.2.2.2.2.2.2.2.2.2.2.2.2.2.1))).trans (hHeld.2.2.2.2.2.2.2.2.2.2.2.2.2.2.2.2.2.2.2.2.2.2.2.2.1)
             have HS25_ := (hb.cell (blt_ (hHeld.2.2.2.2.2.2.2.2.2.2.2.2.2.2.2.2.2.2.2.2.2.2.2.2.2.1))).trans (hHeld.2.2.2.2.2.2.2.2.2.2.2.2.2.2.2.2.2.2.2.2.2.2.2.2.2.1)
             have HS26_ := (hb.cell (blt_ (hHeld.2.2.2.2.2.2.2.2.2.2.2.2.2.2.2.2.2.2.2.2.2.2.2.2.2.2.1))).trans (hHeld.2.2.2.2.2.2.2.2.2.2.2.2.2.2.2.2.2.2.2.2.2.2.2.2.2.2.1)
             have HS27_ := (hb.cell (blt_ (hHeld.2.2.2.2.2.2.2.2.2.2.2.2.2.2.2.2.2.2.2.2.2.2.2.2.2.2.2.1))).trans (hHeld.2.2.2.2.2.2.2.2.2.2.2.2.2.2.2.2.2.2.2.2.2.2.2.2.2.2.2.1)
             have HS28_ := (hb.cell (blt_ (hHeld.2.2.2.2.2.2.2.2.2.2.2.2.2.2.2.2.2.2.2.2.2.2.2.2.2.2.2.2.1))).trans (hHeld.2.2.2.2.2.2.2.2.2.2.2.2.2.2.2.2.2.2.2.2.2.2.2.2.2.2.2.2.1)
             have HS29_ := (hb.cell (blt_ (hHeld.2.2.2.2.2.2.2.2.2.2.2.2.2.2.2.2.2.2.2.2.2.2.2.2.2.2.2.2.2.1))).trans (hHeld.2.2.2.2.2.2.2.2.2.2.2.2.2.2.2.2.2.2.2.2.2.2.2.2.2.2.2.2.2.1)
             have HS30_ := (hb.cell (blt_ (hHeld.2.2.2.2.2.2.2.2.2.2.2.2.2.2.2.2.2.2.2.2.2.2.2.2.2.2.2.2.2.2))).trans (hHeld.2.2.2.2.2.2.2.2.2.2.2.2.2.2.2.2.2.2.2.2.2.2.2.2.2.2.2.2.2.2)
             clear hg_ hnew_
             (first | rw [← Ny113.out] at ho33 | (simp only [Int.reduceToNat] at ho33; rw [← Ny113.out] at ho33))
             have n0_ := Aside0.mk (Kd.R_elder' (by (with_reducible repeat (first | apply Kd.R_alloc | apply Kd.R_drewN | apply Kd.R_drew)); exact HO_6.out) (Kd.R_base ho33) hb)
             have n1_ := Aside0.mk (Kd.V_elder' (by (with_reducible repeat (first | apply Kd.V_alloc | apply Kd.V_drewN | apply Kd.V_drew)); exact HO_102002.out) (Kd.R_base ho33) hb)
             have n2_ := Aside0.mk (Kd.V_elder' (by (with_reducible repeat (first | apply Kd.V_alloc | apply Kd.V_drewN | apply Kd.V_drew)); exact HO_103001.out) (Kd.R_base ho33) hb)
             have n3_ := Aside0.mk (Kd.V_elder' (by (with_reducible repeat (first | apply Kd.V_alloc | apply Kd.V_drewN | apply Kd.V_drew)); exact HL111_2.out) (Kd.R_base ho33) hb)
             have n4_ := Aside0.mk (Kd.V_elder' (by (with_reducible repeat (first | apply Kd.V_alloc | apply Kd.V_drewN | apply Kd.V_drew)); exact HL112_2.out) (Kd.R_base ho33) hb)
             have n5_ := Aside0.mk (Kd.R_lower (Kd.R_new' (Kd.R_newM (M := fun k_ => (w.heap.size ≤ k_)) ho33 (below_size (by repeat (first | (with_reducible first | exact HB.out | apply below_alloc | apply pw_below_drewN | apply below_drew1 | refine below_set ?_ GE101.out | refine below_set ?_ GE102.out) | exact HB.out))) (fun k_ h_ => h_)) (Kd.R_lt (by (with_reducible repeat (first | apply Kd.R_alloc | apply Kd.R_drewN | apply Kd.R_drew)); exact HO_6.out))) (below_size (by repeat (first | (with_reducible first | exact HB.out | apply below_alloc | apply pw_below_drewN | apply below_drew1 | refine below_set ?_ GE101.out | refine below_set ?_ GE102.out) | exact HB.out))))
             have n6_ := Aside0.mk (blk_below (g := gb101) (o := .cells #[.string a0_0, .slice A0_1 l0_1.length c0_1, .slice (some ad111) l0_2.length c0_2] 27 (0, 0)) (by (with_reducible repeat (first | refine blk_drewN ?_ _ | refine blk_drew ?_ | refine blk_alloc ?_ _)); exact BK101.out) hb)
             have n7_ := Aside0.mk (blk_below (g := gb102) (o := .cells #[.string a1_0, .slice A1_1 l1_1.length c1_1] 24 (0, 0)) (by (with_reducible repeat (first | refine blk_drewN ?_ _ | refine blk_drew ?_ | refine blk_alloc ?_ _)); exact BK102.out) hb)
             have n8_ := Aside0.mk (Kd.C_below (by repeat (first | (with_reducible exact HR111_2.out) | (with_reducible refine Kd.C_alloc ?_ _) | (with_reducible refine Kd.C_drewN ?_ _) | (with_reducible refine Kd.C_drew ?_) | exact HR111_2.out)) hb)
             have n9_ := Aside0.mk (Kd.C_below (by repeat (first | (with_reducible exact HR112_2.out) | (with_reducible refine Kd.C_alloc ?_ _) | (with_reducible refine Kd.C_drewN ?_ _) | (with_reducible refine Kd.C_drew ?_) | exact HR112_2.out)) hb)
             have n10_ := Aside0.mk (below_step (by repeat (first | (with_reducible first | exact HB.out | apply below_alloc | apply pw_below_drewN | apply below_drew1 | refine below_set ?_ GE101.out | refine below_set ?_ GE102.out) | exact HB.out)) hb)
             clear HO_6
             clear HO_102002
             clear HO_103001
             clear HL111_2
             clear HL112_2
             clear BK101
             clear BK102
             clear HR111_2
             clear HR112_2
             clear HB
             have HO_6 := n0_
             have HO_102002 := n1_
             have HO_103001 := n2_
             have HL111_2 := n3_
             have HL112_2 := n4_
             have HO115 := n5_
             have BK101 := n6_
             have BK102 := n7_
             have HR111_2 := n8_
             have HR112_2 := n9_
             have HB := n10_
             clear n0_ n1_ n2_ n3_ n4_ n5_ n6_ n7_ n8_ n9_ n10_
             clear hb ho33
             obtain ⟨Ao35, co35, eo35⟩ := Kd.R_slice HO115.out
             (first | subst eo35 | (injection eo35 with f1_ f2_ f3_; have f4_ := f1_.symm; have f5_ := f3_.symm; clear f1_ f2_ f3_; subst f4_; subst f5_))
             refine hK.out _ _ ⟨(blk_cell BK101.out 0).trans rfl, (blk_cell BK101.out 1).trans rfl, (blk_cell BK101.out 2).trans rfl, HS3_, HS4_, HS5_, HS6_, HS7_, HS8_, HS9_, HS10_, HS11_, HS12_, HS13_, HS14_, HS15_, HS16_, HS17_, HS18_, HS19_, HS20_, HS21_, HS22_, HS23_, HS24_, HS25_, HS26_, HS27_, HS28_, HS29_, HS30_⟩ (fun hHeld => ?_)
             clear hK K
             refine norm_ (a' := ?_) ?_ ?_
             rotate_left
             ·show Act.put _ (some 57) _ = _
              simp only [Act.put, List.setIfInBounds_toArray, List.set_cons_zero, List.set_cons_succ, i64_w, i32_w]
              rfl
             refine last_ (i := 14) (N := some 58) #[tt,tt,tt,tt,tt,tt,tt,tt,tt,tt,tt,tt,tt,tt,tt,ff] rfl rfl (one_of HT_.out (by kernel_rfl)) (by decide) (fun K hK => ?_)
             refine Kd.R_append_rows_step k45 (w0 := w) w.heap.size (by rfl) (.tmp 44) (.tmp 57) 22 45 (.agg #[(.bool false), (.string ⟨#[]⟩), (.bool false), (.string ⟨#[]⟩), (.int .i64 0)]) 56 rfl Try.underlying22 info45 rfl (by decide) (by omega) u6 x6_3 y113 _ _ _ (fun k_ => (w.heap.size ≤ k_) ∧ some k_ ≠ (.slice Ao35 y113.length co35 : Value).ownBlock) (fun _ => False) rfl rfl ?aO ?aR (fun _ _ h => h) (fun _ h => h.elim) ?aF ?aB ?aS ?aL ?_
             (case aR => repeat (first | exact (Kd.R_reads' HO115.out).2.2 | (with_reducible refine Kd.C_alloc ?_ _) | (with_reducible refine Kd.C_drewN ?_ _) | (with_reducible refine Kd.C_drew ?_)))
             (case aB => exact (by repeat (first | (with_reducible first | exact HB.out | apply below_alloc | apply pw_below_drewN | apply below_drew1 | refine below_set ?_ GE101.out | refine below_set ?_ GE102.out) | exact HB.out)))
             (case aF => exact (fun k_ hk => ⟨(Nat.le_trans (below_size (by repeat (first | (with_reducible first | exact HB.out | apply below_alloc | apply pw_below_drewN | apply below_drew1 | refine below_set ?_ GE101.out | refine below_set ?_ GE102.out) | exact HB.out))) hk), Kd.fresh' (Kd.R_lt (by (with_reducible repeat (first | apply Kd.R_alloc | apply Kd.R_drewN | apply Kd.R_drew)); exact HO115.out)) k_ hk⟩))
             (case aO => exact (by (with_reducible repeat (first | apply Kd.R_alloc | apply Kd.R_drewN | apply Kd.R_drew)); exact HO_6.out))
             (case aS => exact (below_size (by repeat (first | (with_reducible first | exact HB.out | apply below_alloc | apply pw_below_drewN | apply below_drew1 | refine below_set ?_ GE101.out | refine below_set ?_ GE102.out) | exact HB.out))))
             (case aL => have := LMc27.out; omega)
             intro v117 w34 ho hb hg hat
             rw [← Ny116.out] at ho
             have n0_ := Aside0.mk (Kd.V_afterv (ok := (fun k_ => ((P0_2_ k_ ∨ P1_1_ k_) ∨ w.heap.size ≤ k_) ∧ some k_ ≠ (.slice Ao35 y113.length co35 : Value).ownBlock ∧ k_ ≠ gb101 ∧ k_ ≠ gb102)) (by (with_reducible repeat (first | apply Kd.V_alloc | apply Kd.V_drewN | apply Kd.V_drew)); exact Kd.V_mono HO_102002.out (fun _ hk => ⟨⟨hk.1.1, ⟨hk.2, ⟨hk.1.2.2.1, hk.1.2.2.2⟩⟩⟩, hk.1.2.1⟩)) hg hat)
             have n1_ := Aside0.mk (Kd.V_afterv (ok := (fun k_ => ((P0_2_ k_ ∨ P1_1_ k_) ∨ w.heap.size ≤ k_) ∧ some k_ ≠ (.slice Ao35 y113.length co35 : Value).ownBlock ∧ k_ ≠ gb101 ∧ k_ ≠ gb102)) (by (with_reducible repeat (first | apply Kd.V_alloc | apply Kd.V_drewN | apply Kd.V_drew)); exact Kd.V_mono HO_103001.out (fun _ hk => ⟨⟨hk.1.1, ⟨hk.2, ⟨hk.1.2.2.1, hk.1.2.2.2⟩⟩⟩, hk.1.2.1⟩)) hg hat)
             have n2_ := Aside0.mk (blk_grown (g := gb101) (o := .cells #[.string a0_0, .slice A0_1 l0_1.length c0_1, .slice (some ad111) l0_2.length c0_2] 27 (0, 0)) (by (with_reducible repeat (first | refine blk_drewN ?_ _ | refine blk_drew ?_ | refine blk_alloc ?_ _)); exact BK101.out) hg (Kd.R_ne HO_6.out BK101.out (by decide)))
             have n3_ := Aside0.mk (blk_grown (g := gb102) (o := .cells #[.string a1_0, .slice A1_1 l1_1.length c1_1] 24 (0, 0)) (by (with_reducible repeat (first | refine blk_drewN ?_ _ | refine blk_drew ?_ | refine blk_alloc ?_ _)); exact BK102.out) hg (Kd.R_ne HO_6.out BK102.out (by decide)))
             have n4_ := Aside0.mk (Kd.V_afterv (ok := (fun k_ => ((P0_2_ k_ ∨ P1_1_ k_) ∨ w.heap.size ≤ k_) ∧ some k_ ≠ (.slice Ao35 y113.length co35 : Value).ownBlock ∧ k_ ≠ gb101 ∧ k_ ≠ gb102)) (by (with_reducible repeat (first | apply Kd.V_alloc | apply Kd.V_drewN | apply Kd.V_drew)); exact Kd.V_mono HL111_2.out (fun _ hk => ⟨⟨hk.1.1, ⟨hk.2, ⟨hk.1.2.2.1, hk.1.2.2.2⟩⟩⟩, hk.1.2.1⟩)) hg hat)
             have n5_ := Aside0.mk (Kd.V_afterv (ok := (fun k_ => ((P0_2_ k_ ∨ P1_1_ k_) ∨ w.heap.size ≤ k_) ∧ some k_ ≠ (.slice Ao35 y113.length co35 : Value).ownBlock ∧ k_ ≠ gb101 ∧ k_ ≠ gb102)) (by (with_reducible repeat (first | apply Kd.V_alloc | apply Kd.V_drewN | apply Kd.V_drew)); exact Kd.V_mono HL112_2.out (fun _ hk => ⟨⟨hk.1.1, ⟨hk.2, ⟨hk.1.2.2.1, hk.1.2.2.2⟩⟩⟩, hk.1.2.1⟩)) hg hat)
             have n6_ := Aside0.mk (Kd.R_after (ok := (fun k_ => (w.heap.size ≤ k_))) (by (with_reducible repeat (first | apply Kd.R_alloc | apply Kd.R_drewN | apply Kd.R_drew)); exact Kd.R_mono HO115.out (fun _ hk => ⟨hk.1.1, hk.2⟩)) hg hat)
             have n7_ := Aside0.mk (hb)
             have n8_ := Aside0.mk (ho)
             clear HO_102002
             clear HO_103001
             clear BK101
             clear BK102
             clear HL111_2
             clear HL112_2
             clear HO115
             clear HB
             clear HO_6
             have HO_102002 := n0_
             have HO_103001 := n1_
             have BK101 := n2_
             have BK102 := n3_
             have HL111_2 := n4_
             have HL112_2 := n5_
             have HO115 := n6_
             have HB := n7_
             have HO118 := n8_
             clear n0_ n1_ n2_ n3_ n4_ n5_ n6_ n7_ n8_
             clear ho hb hg hat
             refine hK.out _ _ ?_
             clear hK K
             refine norm_ (a' := ?_) ?_ ?_
             rotate_left
             ·show Act.put _ (some 58) _ = _
              simp only [Act.put, List.setIfInBounds_toArray, List.set_cons_zero, List.set_cons_succ, i64_w, i32_w]
              rfl
             refine pure_ (i := 15) (N := some 6) (v := ?_) (a' := ?_) #[tt,tt,tt,tt,tt,tt,tt,tt,tt,tt,tt,tt,tt,tt,tt,tt] rfl rfl (any_of HT_.out (by kernel_rfl)) (fun _ _ _ h => h) (Or.inl ⟨by rfl, ?_⟩) ?_ ?_
             rotate_left
             ·intro w'
              go_simp
              with_reducible rfl
             rotate_left
             ·simp only [Act.put, List.setIfInBounds_toArray, List.set_cons_zero, List.set_cons_succ, i64_w, i32_w]
              rfl
             refine done_ (done_of HT_.out (by kernel_rfl)) ?_
             have hcz36_0 : w34.cell? ⟨gb101, 0, none⟩ = some (.string a0_0) := (blk_cell BK101.out 0).trans rfl
             have hcz36_1 : w34.cell? ⟨gb101, 1, none⟩ = some (.slice A0_1 l0_1.length c0_1) := (blk_cell BK101.out 1).trans rfl
             have hcz36_2 : w34.cell? ⟨gb101, 2, none⟩ = some (.slice (some ad111) l0_2.length c0_2) := (blk_cell BK101.out 2).trans rfl
             have hfz36_0 := blk_frozen BK101.out 0
             have hfz36_1 := blk_frozen BK101.out 1
             have hfz36_2 := blk_frozen BK101.out 2
             have p119 : 0 ≤ (x7_3 : Int) := of_decide_eq_true (by first | (with_reducible assumption) | assumption)
             have q119 : x7_3 < (l0_2.length : Int) := of_decide_eq_true (by first | (with_reducible assumption) | assumption)
             obtain ⟨ad119, A119_2, c119_2, e119, hx119_0, hx119_1, hx119_2, hx119_3, hx119_4, hx119_5, hx119_6, hx119_7, hx119_8, hx119_9, hx119_10, hx119_11, hx119_12, hx119_13, hl119_2, hi119_2⟩ := at_T47 (Kd.V_reads' HO_102002.out).2.2 x7_3 p119 q119
             obtain rfl : ad111 = ad119 := (by injection e119)
             obtain ⟨ce119, hce119, hMe119, hcc119⟩ := Kd.V_get HO_102002.out z47 x7_3 p119 (by first | exact q119 | exact of_decide_eq_true (by first | (with_reducible assumption) | assumption) | (have e_ := (Kd.V_reads' HO_102002.out).1; omega))
             obtain ⟨ua119_2, uc119_2, rfl, ul119_2, ge119_2⟩ := k47_openF hMe119
             have hv119_2 := hcc119 2 _ rfl
             rw [add_field _ _ 2 (by omega)] at hv119_2
             replace hv119_2 := Option.some.inj (hv119_2.symm.trans hx119_2)
             injection hv119_2 with hva_ hvn_ hvc_
             rw [hva_] at ge119_2
             rw [hvc_] at ul119_2
             have HL119_2 := Aside0.mk (show Kd.V k45 45 _ w.heap.size _ _ ((rd_T47 l0_2 x7_3).atom.args) from Kd.V_mk ul119_2 ge119_2)
             clear hva_ hvn_ hvc_ ge119_2 ul119_2
             clear hcc119 hce119
             have HR119_2 := Aside0.mk hi119_2
             have HC119_2 := Aside0.mk hl119_2
             clear hi119_2 hl119_2
             replace p119 := eq_true p119
             replace q119 := eq_true q119
             try go_wp2_with (first | ((with_reducible refine gate_builtin (b := .append) (xs := #[.tmp 59, .tmp 66]) rfl ?_); (try (refine gate_guard (by rfl) ?_; dsimp only)); at_builtin; refine Kd.R_append_rows k45 (w0 := w) w.heap.size rfl (.tmp 59) (.tmp 66) 22 45 (.agg #[(.bool false), (.string ⟨#[]⟩), (.bool false), (.string ⟨#[]⟩), (.int .i64 0)]) 56 rfl Try.underlying22 info45 rfl (by decide) (by omega) v117 y116 ((rd_T47 l0_2 x7_3).atom.args) _ _ _ (fun k_ => (w.heap.size ≤ k_) ∧ some k_ ≠ (.slice Ao35 y113.length co35 : Value).ownBlock) (fun _ => False) rfl rfl ?aO ?aR (fun _ _ h => h) (fun _ h => h.elim) ?aF ?aB ?aS ?aL ?_; (case aR => repeat (first | exact (by repeat (first | (with_reducible exact HR119_2.out) | (with_reducible refine Kd.C_alloc ?_ _) | (with_reducible refine Kd.C_drewN ?_ _) | (with_reducible refine Kd.C_drew ?_) | exact HR119_2.out)) | (with_reducible refine Kd.C_alloc ?_ _) | (with_reducible refine Kd.C_drewN ?_ _) | (with_reducible refine Kd.C_drew ?_))); (case aB => exact (by repeat (first | (with_reducible first | exact HB.out | apply below_alloc | apply pw_below_drewN | apply below_drew1 | refine below_set ?_ GE101.out | refine below_set ?_ GE102.out) | exact HB.out))); (case aF => exact (fun k_ hk => ⟨(Nat.le_trans (below_size (by repeat (first | (with_reducible first | exact HB.out | apply below_alloc | apply pw_below_drewN | apply below_drew1 | refine below_set ?_ GE101.out | refine below_set ?_ GE102.out) | exact HB.out))) hk), Kd.fresh' (Kd.R_lt (by (with_reducible repeat (first | apply Kd.R_alloc | apply Kd.R_drewN | apply Kd.R_drew)); exact HO115.out)) k_ hk⟩)); (case aO => exact (by (with_reducible repeat (first | apply Kd.R_alloc | apply Kd.R_drewN | apply Kd.R_drew)); exact HO118.out)); (case aS => exact (below_size (by repeat (first | (with_reducible first | exact HB.out | apply below_alloc | apply pw_below_drewN | apply below_drew1 | refine below_set ?_ GE101.out | refine below_set ?_ GE102.out) | exact HB.out)))); (case aL => have := LMc28.out; omega); intro v121 w37 ho hb hg hat; rw [← Ny120.out] at ho; have n0_ := Aside0.mk (Kd.V_afterv (ok := (fun k_ => ((P0_2_ k_ ∨ P1_1_ k_) ∨ w.heap.size ≤ k_) ∧ some k_ ≠ (.slice Ao35 y113.length co35 : Value).ownBlock ∧ k_ ≠ gb101 ∧ k_ ≠ gb102)) (by (with_reducible repeat (first | apply Kd.V_alloc | apply Kd.V_drewN | apply Kd.V_drew)); exact HO_102002.out) hg hat); have n1_ := Aside0.mk (Kd.V_afterv (ok := (fun k_ => ((P0_2_ k_ ∨ P1_1_ k_) ∨ w.heap.size ≤ k_) ∧ some k_ ≠ (.slice Ao35 y113.length co35 : Value).ownBlock ∧ k_ ≠ gb101 ∧ k_ ≠ gb102)) (by (with_reducible repeat (first | apply Kd.V_alloc | apply Kd.V_drewN | apply Kd.V_drew)); exact HO_103001.out) hg hat); have n2_ := Aside0.mk (blk_grown (g := gb101) (o := .cells #[.string a0_0, .slice A0_1 l0_1.length c0_1, .slice (some ad111) l0_2.length c0_2] 27 (0, 0)) (by (with_reducible repeat (first | refine blk_drewN ?_ _ | refine blk_drew ?_ | refine blk_alloc ?_ _)); exact BK101.out) hg (Kd.R_ne HO118.out BK101.out (by decide))); have n3_ := Aside0.mk (blk_grown (g := gb102) (o := .cells #[.string a1_0, .slice A1_1 l1_1.length c1_1] 24 (0, 0)) (by (with_reducible repeat (first | refine blk_drewN ?_ _ | refine blk_drew ?_ | refine blk_alloc ?_ _)); exact BK102.out) hg (Kd.R_ne HO118.out BK102.out (by decide))); have n4_ := Aside0.mk (Kd.V_afterv (ok := (fun k_ => ((P0_2_ k_ ∨ P1_1_ k_) ∨ w.heap.size ≤ k_) ∧ some k_ ≠ (.slice Ao35 y113.length co35 : Value).ownBlock ∧ k_ ≠ gb101 ∧ k_ ≠ gb102)) (by (with_reducible repeat (first | apply Kd.V_alloc | apply Kd.V_drewN | apply Kd.V_drew)); exact HL111_2.out) hg hat); have n5_ := Aside0.mk (Kd.V_afterv (ok := (fun k_ => ((P0_2_ k_ ∨ P1_1_ k_) ∨ w.heap.size ≤ k_) ∧ some k_ ≠ (.slice Ao35 y113.length co35 : Value).ownBlock ∧ k_ ≠ gb101 ∧ k_ ≠ gb102)) (by (with_reducible repeat (first | apply Kd.V_alloc | apply Kd.V_drewN | apply Kd.V_drew)); exact HL112_2.out) hg hat); have n6_ := Aside0.mk (Kd.R_after (ok := (fun k_ => (w.heap.size ≤ k_))) (by (with_reducible repeat (first | apply Kd.R_alloc | apply Kd.R_drewN | apply Kd.R_drew)); exact HO115.out) hg hat); have n7_ := Aside0.mk (Kd.V_afterv (ok := (fun k_ => ((P0_2_ k_ ∨ P1_1_ k_) ∨ w.heap.size ≤ k_) ∧ some k_ ≠ (.slice Ao35 y113.length co35 : Value).ownBlock ∧ k_ ≠ gb101 ∧ k_ ≠ gb102)) (by (with_reducible repeat (first | apply Kd.V_alloc | apply Kd.V_drewN | apply Kd.V_drew)); exact HL119_2.out) hg hat); have n8_ := Aside0.mk (hb); have n9_ := Aside0.mk (ho); clear HO_102002; clear HO_103001; clear BK101; clear BK102; clear HL111_2; clear HL112_2; clear HO115; clear HL119_2; clear HB; clear HO118; have HO_102002 := n0_; have HO_103001 := n1_; have BK101 := n2_; have BK102 := n3_; have HL111_2 := n4_; have HL112_2 := n5_; have HO115 := n6_; have HL119_2 := n7_; have HB := n8_; have HO122 := n9_; clear n0_ n1_ n2_ n3_ n4_ n5_ n6_ n7_ n8_ n9_; clear ho hb hg hat))
             go_roundg k3
             case measure => have := HJ2.out; have := HJ7.out; have := HK3.out; omega
             case rel => exact ⟨(y120), (wrap64 (x7_3 + 1)), (by first | rfl | (simp; done) | (simp [*]; done)), H', ⟨by have := HJ2.out; have := HJ7.out; have := HK3.out; omega⟩, ⟨by (with_reducible repeat (first | apply Kd.R_alloc | apply Kd.R_drewN | apply Kd.R_drew)); exact Kd.R_mono HO122.out (fun _ hk => hk.1)⟩, ⟨by (with_reducible repeat (first | apply Kd.V_alloc | apply Kd.V_drewN | apply Kd.V_drew)); exact Kd.V_mono HO_102002.out (fun _ hk => ⟨hk.1.1, ⟨hk.2, ⟨hk.1.2.2.1, hk.1.2.2.2⟩⟩⟩)⟩, ⟨by (with_reducible repeat (first | apply Kd.V_alloc | apply Kd.V_drewN | apply Kd.V_drew)); exact Kd.V_mono HO_103001.out (fun _ hk => ⟨hk.1.1, ⟨hk.2, ⟨hk.1.2.2.1, hk.1.2.2.2⟩⟩⟩)⟩, ⟨by (with_reducible repeat (first | refine blk_drewN ?_ _ | refine blk_drew ?_ | refine blk_alloc ?_ _)); exact BK101.out⟩, ⟨by (with_reducible repeat (first | refine blk_drewN ?_ _ | refine blk_drew ?_ | refine blk_alloc ?_ _)); exact BK102.out⟩, ⟨by repeat (first | (with_reducible first | exact HB.out | apply below_alloc | apply pw_below_drewN | apply below_drew1 | refine below_set ?_ GE101.out | refine below_set ?_ GE102.out) | exact HB.out)⟩⟩
            ·rw [if_neg c28] at H
             exact absurd H (by simp)
           ·rw [if_neg c27] at H
            exact absurd H (by simp)
          ·rw [if_neg c26] at H
           exact absurd H (by simp)
         ·rw [if_neg c25] at H
          have c25b0 : decide (x7_3 < (l0_2.length : Int)) = false := decide_eq_false c25
          clear c25
          replace H := Option.bind_eq_some_iff.mp H
          obtain ⟨⟨t123, t124, t125⟩, A380, H⟩ := H
          replace H : ((some (([] : List (Liter)) : List (Liter))).bind fun y126 => (if y126.length + l0_2.length < 799644820200 then ((some (y126 ++ l0_2 : List (Liter))).bind fun y129 => ((some (([(⟨1, (⟨(⟨#[97, 108, 108]⟩ : ByteArray), x6_3⟩ : Atom), (⟨#[]⟩ : ByteArray), (⟨false, (⟨#[]⟩ : ByteArray), (⟨false, (⟨#[]⟩ : ByteArray), 0⟩ : Val)⟩ : Term), (⟨false, (⟨#[]⟩ : ByteArray), (⟨false, (⟨#[]⟩ : ByteArray), 0⟩ : Val)⟩ : Term)⟩ : Liter)] : List (Liter)) : List (Liter))).bind fun y132 => (if y129.length + y132.length < 799644820200 then ((safe_Check.f k3 a0_0 l0_1 (y129 ++ y132)).bind fun bt138 => ((some (([] : List (Liter)) : List (Liter))).bind fun y141 => (if y141.length + l0_2.length < 799644820200 then ((some (y141 ++ l0_2 : List (Liter))).bind fun y144 => ((some (([(⟨1, (⟨a1_0, l1_1⟩ : Atom), (⟨#[]⟩ : ByteArray), (⟨false, (⟨#[]⟩ : ByteArray), (⟨false, (⟨#[]⟩ : ByteArray), 0⟩ : Val)⟩ : Term), (⟨false, (⟨#[]⟩ : ByteArray), (⟨false, (⟨#[]⟩ : ByteArray), 0⟩ : Val)⟩ : Term)⟩ : Liter)] : List (Liter)) : List (Liter))).bind fun y147 => (if y144.length + y147.length < 799644820200 then ((safe_Check.f k3 a0_0 l0_1 (y144 ++ y147)).bind fun bt153 => ((safe_Check.f k3 a1_0 l1_1 ([] : List (Liter))).bind fun bt156 => ((safe_Vars.f k3 a1_0 l1_1).bind fun t159 => (lambrequinlaw09_SafeBinds.j3 k3 x5_2 t125 bt138.2.2 bt153.2.2 bt156.2.1 bt156.2.2 ((t159.length : Int) == 0))))) else (none)))) else (none)))) else (none)))) else (none))) = some r := H
          have A38 := Aside0.mk A380
          clear A380
          obtain ⟨y126, hy126⟩ : ∃ y_ : List (Liter), y_ = (([] : List (Liter))) := ⟨_, rfl⟩
          replace H : (if y126.length + l0_2.length < 799644820200 then ((some (y126 ++ l0_2 : List (Liter))).bind fun y129 => ((some (([(⟨1, (⟨(⟨#[97, 108, 108]⟩ : ByteArray), x6_3⟩ : Atom), (⟨#[]⟩ : ByteArray), (⟨false, (⟨#[]⟩ : ByteArray), (⟨false, (⟨#[]⟩ : ByteArray), 0⟩ : Val)⟩ : Term), (⟨false, (⟨#[]⟩ : ByteArray), (⟨false, (⟨#[]⟩ : ByteArray), 0⟩ : Val)⟩ : Term)⟩ : Liter)] : List (Liter)) : List (Liter))).bind fun y132 => (if y129.length + y132.length < 799644820200 then ((safe_Check.f k3 a0_0 l0_1 (y129 ++ y132)).bind fun bt138 => ((some (([] : List (Liter)) : List (Liter))).bind fun y141 => (if y141.length + l0_2.length < 799644820200 then ((some (y141 ++ l0_2 : List (Liter))).bind fun y144 => ((some (([(⟨1, (⟨a1_0, l1_1⟩ : Atom), (⟨#[]⟩ : ByteArray), (⟨false, (⟨#[]⟩ : ByteArray), (⟨false, (⟨#[]⟩ : ByteArray), 0⟩ : Val)⟩ : Term), (⟨false, (⟨#[]⟩ : ByteArray), (⟨false, (⟨#[]⟩ : ByteArray), 0⟩ : Val)⟩ : Term)⟩ : Liter)] : List (Liter)) : List (Liter))).bind fun y147 => (if y144.length + y147.length < 799644820200 then ((safe_Check.f k3 a0_0 l0_1 (y144 ++ y147)).bind fun bt153 => ((safe_Check.f k3 a1_0 l1_1 ([] : List (Liter))).bind fun bt156 => ((safe_Vars.f k3 a1_0 l1_1).bind fun t159 => (lambrequinlaw09_SafeBinds.j3 k3 x5_2 t125 bt138.2.2 bt153.2.2 bt156.2.1 bt156.2.2 ((t159.length : Int) == 0))))) else (none)))) else (none)))) else (none)))) else (none)) = some r := by first | (rw [hy126]; with_reducible exact H) | (have H2_ := (Option.bind_some _ _).symm.trans H; rw [hy126]; with_reducible exact H2_) | (have H2_ := (Option.bind_some _ _).symm.trans H; with_reducible exact H2_) | with_reducible exact H | (rw [hy126]; exact H) | exact H
          have Ny126 := Aside0.mk hy126
          clear hy126
          by_cases c39 : y126.length + l0_2.length < 799644820200
          ·rw [if_pos c39] at H
           have LMc39 := Aside0.mk c39
           clear c39
           obtain ⟨y129, hy129⟩ : ∃ y_ : List (Liter), y_ = (y126 ++ l0_2) := ⟨_, rfl⟩
           replace H : ((some (([(⟨1, (⟨(⟨#[97, 108, 108]⟩ : ByteArray), x6_3⟩ : Atom), (⟨#[]⟩ : ByteArray), (⟨false, (⟨#[]⟩ : ByteArray), (⟨false, (⟨#[]⟩ : ByteArray), 0⟩ : Val)⟩ : Term), (⟨false, (⟨#[]⟩ : ByteArray), (⟨false, (⟨#[]⟩ : ByteArray), 0⟩ : Val)⟩ : Term)⟩ : Liter)] : List (Liter)) : List (Liter))).bind fun y132 => (if y129.length + y132.length < 799644820200 then ((safe_Check.f k3 a0_0 l0_1 (y129 ++ y132)).bind fun bt138 => ((some (([] : List (Liter)) : List (Liter))).bind fun y141 => (if y141.length + l0_2.length < 799644820200 then ((some (y141 ++ l0_2 : List (Liter))).bind fun y144 => ((some (([(⟨1, (⟨a1_0, l1_1⟩ : Atom), (⟨#[]⟩ : ByteArray), (⟨false, (⟨#[]⟩ : ByteArray), (⟨false, (⟨#[]⟩ : ByteArray), 0⟩ : Val)⟩ : Term), (⟨false, (⟨#[]⟩ : ByteArray), (⟨false, (⟨#[]⟩ : ByteArray), 0⟩ : Val)⟩ : Term)⟩ : Liter)] : List (Liter)) : List (Liter))).bind fun y147 => (if y144.length + y147.length < 799644820200 then ((safe_Check.f k3 a0_0 l0_1 (y144 ++ y147)).bind fun bt153 => ((safe_Check.f k3 a1_0 l1_1 ([] : List (Liter))).bind fun bt156 => ((safe_Vars.f k3 a1_0 l1_1).bind fun t159 => (lambrequinlaw09_SafeBinds.j3 k3 x5_2 t125 bt138.2.2 bt153.2.2 bt156.2.1 bt156.2.2 ((t159.length : Int) == 0))))) else (none)))) else (none)))) else (none))) = some r := by first | (rw [hy129]; with_reducible exact H) | (have H2_ := (Option.bind_some _ _).symm.trans H; rw [hy129]; with_reducible exact H2_) | (have H2_ := (Option.bind_some _ _).symm.trans H; with_reducible exact H2_) | with_reducible exact H | (rw [hy129]; exact H) | exact H
           have Ny129 := Aside0.mk hy129
           clear hy129
           obtain ⟨y132, hy132⟩ : ∃ y_ : List (Liter), y_ = (([(⟨1, (⟨(⟨#[97, 108, 108]⟩ : ByteArray), x6_3⟩ : Atom), (⟨#[]⟩ : ByteArray), (⟨false, (⟨#[]⟩ : ByteArray), (⟨false, (⟨#[]⟩ : ByteArray), 0⟩ : Val)⟩ : Term), (⟨false, (⟨#[]⟩ : ByteArray), (⟨false, (⟨#[]⟩ : ByteArray), 0⟩ : Val)⟩ : Term)⟩ : Liter)] : List (Liter))) := ⟨_, rfl⟩
           replace H : (if y129.length + y132.length < 799644820200 then ((safe_Check.f k3 a0_0 l0_1 (y129 ++ y132)).bind fun bt138 => ((some (([] : List (Liter)) : List (Liter))).bind fun y141 => (if y141.length + l0_2.length < 799644820200 then ((some (y141 ++ l0_2 : List (Liter))).bind fun y144 => ((some (([(⟨1, (⟨a1_0, l1_1⟩ : Atom), (⟨#[]⟩ : ByteArray), (⟨false, (⟨#[]⟩ : ByteArray), (⟨false, (⟨#[]⟩ : ByteArray), 0⟩ : Val)⟩ : Term), (⟨false, (⟨#[]⟩ : ByteArray), (⟨false, (⟨#[]⟩ : ByteArray), 0⟩ : Val)⟩ : Term)⟩ : Liter)] : List (Liter)) : List (Liter))).bind fun y147 => (if y144.length + y147.length < 799644820200 then ((safe_Check.f k3 a0_0 l0_1 (y144 ++ y147)).bind fun bt153 => ((safe_Check.f k3 a1_0 l1_1 ([] : List (Liter))).bind fun bt156 => ((safe_Vars.f k3 a1_0 l1_1).bind fun t159 => (lambrequinlaw09_SafeBinds.j3 k3 x5_2 t125 bt138.2.2 bt153.2.2 bt156.2.1 bt156.2.2 ((t159.length : Int) == 0))))) else (none)))) else (none)))) else (none)) = some r := by first | (rw [hy132]; with_reducible exact H) | (have H2_ := (Option.bind_some _ _).symm.trans H; rw [hy132]; with_reducible exact H2_) | (have H2_ := (Option.bind_some _ _).symm.trans H; with_reducible exact H2_) | with_reducible exact H | (rw [hy132]; exact H) | exact H
           have Ny132 := Aside0.mk hy132
           clear hy132
           by_cases c40 : y129.length + y132.length < 799644820200
           ·rw [if_pos c40] at H
            have LMc40 := Aside0.mk c40
            clear c40
            obtain ⟨y135, hy135⟩ : ∃ y_ : List (Liter), y_ = (y129 ++ y132) := ⟨_, rfl⟩
            replace H : ((safe_Check.f k3 a0_0 l0_1 y135).bind fun bt138 => ((some (([] : List (Liter)) : List (Liter))).bind fun y141 => (if y141.length + l0_2.length < 799644820200 then ((some (y141 ++ l0_2 : List (Liter))).bind fun y144 => ((some (([(⟨1, (⟨a1_0, l1_1⟩ : Atom), (⟨#[]⟩ : ByteArray), (⟨false, (⟨#[]⟩ : ByteArray), (⟨false, (⟨#[]⟩ : ByteArray), 0⟩ : Val)⟩ : Term), (⟨false, (⟨#[]⟩ : ByteArray), (⟨false, (⟨#[]⟩ : ByteArray), 0⟩ : Val)⟩ : Term)⟩ : Liter)] : List (Liter)) : List (Liter))).bind fun y147 => (if y144.length + y147.length < 799644820200 then ((safe_Check.f k3 a0_0 l0_1 (y144 ++ y147)).bind fun bt153 => ((safe_Check.f k3 a1_0 l1_1 ([] : List (Liter))).bind fun bt156 => ((safe_Vars.f k3 a1_0 l1_1).bind fun t159 => (lambrequinlaw09_SafeBinds.j3 k3 x5_2 t125 bt138.2.2 bt153.2.2 bt156.2.1 bt156.2.2 ((t159.length : Int) == 0))))) else (none)))) else (none)))) = some r := by first | (rw [hy135]; with_reducible exact H) | (have H2_ := (Option.bind_some _ _).symm.trans H; rw [hy135]; with_reducible exact H2_) | (have H2_ := (Option.bind_some _ _).symm.trans H; with_reducible exact H2_) | with_reducible exact H | (rw [hy135]; exact H) | exact H
            have Ny135 := Aside0.mk hy135
            clear hy135
            replace H := Option.bind_eq_some_iff.mp H
            obtain ⟨⟨t138, t139, t140⟩, A410, H⟩ := H
            replace H : ((some (([] : List (Liter)) : List (Liter))).bind fun y141 => (if y141.length + l0_2.length < 799644820200 then ((some (y141 ++ l0_2 : List (Liter))).bind fun y144 => ((some (([(⟨1, (⟨a1_0, l1_1⟩ : Atom), (⟨#[]⟩ : ByteArray), (⟨false, (⟨#[]⟩ : ByteArray), (⟨false, (⟨#[]⟩ : ByteArray), 0⟩ : Val)⟩ : Term), (⟨false, (⟨#[]⟩ : ByteArray), (⟨false, (⟨#[]⟩ : ByteArray), 0⟩ : Val)⟩ : Term)⟩ : Liter)] : List (Liter)) : List (Liter))).bind fun y147 => (if y144.length + y147.length < 799644820200 then ((safe_Check.f k3 a0_0 l0_1 (y144 ++ y147)).bind fun bt153 => ((safe_Check.f k3 a1_0 l1_1 ([] : List (Liter))).bind fun bt156 => ((safe_Vars.f k3 a1_0 l1_1).bind fun t159 => (lambrequinlaw09_SafeBinds.j3 k3 x5_2 t125 t140 bt153.2.2 bt156.2.1 bt156.2.2 ((t159.length : Int) == 0))))) else (none)))) else (none))) = some r := H
            have A41 := Aside0.mk A410
            clear A410
            obtain ⟨y141, hy141⟩ : ∃ y_ : List (Liter), y_ = (([] : List (Liter))) := ⟨_, rfl⟩
            replace H : (if y141.length + l0_2.length < 799644820200 then ((some (y141 ++ l0_2 : List (Liter))).bind fun y144 => ((some (([(⟨1, (⟨a1_0, l1_1⟩ : Atom), (⟨#[]⟩ : ByteArray), (⟨false, (⟨#[]⟩ : ByteArray), (⟨false, (⟨#[]⟩ : ByteArray), 0⟩ : Val)⟩ : Term), (⟨false, (⟨#[]⟩ : ByteArray), (⟨false, (⟨#[]⟩ : ByteArray), 0⟩ : Val)⟩ : Term)⟩ : Liter)] : List (Liter)) : List (Liter))).bind fun y147 => (if y144.length + y147.length < 799644820200 then ((safe_Check.f k3 a0_0 l0_1 (y144 ++ y147)).bind fun bt153 => ((safe_Check.f k3 a1_0 l1_1 ([] : List (Liter))).bind fun bt156 => ((safe_Vars.f k3 a1_0 l1_1).bind fun t159 => (lambrequinlaw09_SafeBinds.j3 k3 x5_2 t125 t140 bt153.2.2 bt156.2.1 bt156.2.2 ((t159.length : Int) == 0))))) else (none)))) else (none)) = some r := by first | (rw [hy141]; with_reducible exact H) | (have H2_ := (Option.bind_some _ _).symm.trans H; rw [hy141]; with_reducible exact H2_) | (have H2_ := (Option.bind_some _ _).symm.trans H; with_reducible exact H2_) | with_reducible exact H | (rw [hy141]; exact H) | exact H
            have Ny141 := Aside0.mk hy141
            clear hy141
            by_cases c42 : y141.length + l0_2.length < 799644820200
            ·rw [if_pos c42] at H
             have LMc42 := Aside0.mk c42
             clear c42
             obtain ⟨y144, hy144⟩ : ∃ y_ : List (Liter), y_ = (y141 ++ l0_2) := ⟨_, rfl⟩
             replace H : ((some (([(⟨1, (⟨a1_0, l1_1⟩ : Atom), (⟨#[]⟩ : ByteArray), (⟨false, (⟨#[]⟩ : ByteArray), (⟨false, (⟨#[]⟩ : ByteArray), 0⟩ : Val)⟩ : Term), (⟨false, (⟨#[]⟩ : ByteArray), (⟨false, (⟨#[]⟩ : ByteArray), 0⟩ : Val)⟩ : Term)⟩ : Liter)] : List (Liter)) : List (Liter))).bind fun y147 => (if y144.length + y147.length < 799644820200 then ((safe_Check.f k3 a0_0 l0_1 (y144 ++ y147)).bind fun bt153 => ((safe_Check.f k3 a1_0 l1_1 ([] : List (Liter))).bind fun bt156 => ((safe_Vars.f k3 a1_0 l1_1).bind fun t159 => (lambrequinlaw09_SafeBinds.j3 k3 x5_2 t125 t140 bt153.2.2 bt156.2.1 bt156.2.2 ((t159.length : Int) == 0))))) else (none))) = some r := by first | (rw [hy144]; with_reducible exact H) | (have H2_ := (Option.bind_some _ _).symm.trans H; rw [hy144]; with_reducible exact H2_) | (have H2_ := (Option.bind_some _ _).symm.trans H; with_reducible exact H2_) | with_reducible exact H | (rw [hy144]; exact H) | exact H
             have Ny144 := Aside0.mk hy144
             clear hy144
             obtain ⟨y147, hy147⟩ : ∃ y_ : List (Liter), y_ = (([(⟨1, (⟨a1_0, l1_1⟩ : Atom), (⟨#[]⟩ : ByteArray), (⟨false, (⟨#[]⟩ : ByteArray), (⟨false, (⟨#[]⟩ : ByteArray), 0⟩ : Val)⟩ : Term), (⟨false, (⟨#[]⟩ : ByteArray), (⟨false, (⟨#[]⟩ : ByteArray), 0⟩ : Val)⟩ : Term)⟩ : Liter)] : List (Liter))) := ⟨_, rfl⟩
             replace H : (if y144.length + y147.length < 799644820200 then ((safe_Check.f k3 a0_0 l0_1 (y144 ++ y147)).bind fun bt153 => ((safe_Check.f k3 a1_0 l1_1 ([] : List (Liter))).bind fun bt156 => ((safe_Vars.f k3 a1_0 l1_1).bind fun t159 => (lambrequinlaw09_SafeBinds.j3 k3 x5_2 t125 t140 bt153.2.2 bt156.2.1 bt156.2.2 ((t159.length : Int) == 0))))) else (none)) = some r := by first | (rw [hy147]; with_reducible exact H) | (have H2_ := (Option.bind_some _ _).symm.trans H; rw [hy147]; with_reducible exact H2_) | (have H2_ := (Option.bind_some _ _).symm.trans H; with_reducible exact H2_) | with_reducible exact H | (rw [hy147]; exact H) | exact H
             have Ny147 := Aside0.mk hy147
             clear hy147
             by_cases c43 : y144.length + y147.length < 799644820200
             ·rw [if_pos c43] at H
              have LMc43 := Aside0.mk c43
              clear c43
              obtain ⟨y150, hy150⟩ : ∃ y_ : List (Liter), y_ = (y144 ++ y147) := ⟨_, rfl⟩
              replace H : ((safe_Check.f k3 a0_0 l0_1 y150).bind fun bt153 => ((safe_Check.f k3 a1_0 l1_1 ([] : List (Liter))).bind fun bt156 => ((safe_Vars.f k3 a1_0 l1_1).bind fun t159 => (lambrequinlaw09_SafeBinds.j3 k3 x5_2 t125 t140 bt153.2.2 bt156.2.1 bt156.2.2 ((t159.length : Int) == 0))))) = some r := by first | (rw [hy150]; with_reducible exact H) | (have H2_ := (Option.bind_some _ _).symm.trans H; rw [hy150]; with_reducible exact H2_) | (have H2_ := (Option.bind_some _ _).symm.trans H; with_reducible exact H2_) | with_reducible exact H | (rw [hy150]; exact H) | exact H
              have Ny150 := Aside0.mk hy150
              clear hy150
              replace H := Option.bind_eq_some_iff.mp H
              obtain ⟨⟨t153, t154, t155⟩, A440, H⟩ := H
              replace H : ((safe_Check.f k3 a1_0 l1_1 ([] : List (Liter))).bind fun bt156 => ((safe_Vars.f k3 a1_0 l1_1).bind fun t159 => (lambrequinlaw09_SafeBinds.j3 k3 x5_2 t125 t140 t155 bt156.2.1 bt156.2.2 ((t159.length : Int) == 0)))) = some r := H
              have A44 := Aside0.mk A440
              clear A440
              replace H := Option.bind_eq_some_iff.mp H
              obtain ⟨⟨t156, t157, t158⟩, A450, H⟩ := H
              replace H : ((safe_Vars.f k3 a1_0 l1_1).bind fun t159 => (lambrequinlaw09_SafeBinds.j3 k3 x5_2 t125 t140 t155 t157 t158 ((t159.length : Int) == 0))) = some r := H
              have A45 := Aside0.mk A450
              clear A450
              have HC46 := Aside0.mk H
              clear H
              have hnb47 := NB101_102.out
              have hnc47 := NB102_101.out
              have hcz48_0 : wr.cell? ⟨gb101, 0, none⟩ = some (.string a0_0) := (blk_cell BK101.out 0).trans rfl
              have hcz48_1 : wr.cell? ⟨gb101, 1, none⟩ = some (.slice A0_1 l0_1.length c0_1) := (blk_cell BK101.out 1).trans rfl
              have hcz48_2 : wr.cell? ⟨gb101, 2, none⟩ = some (.slice A0_2 l0_2.length c0_2) := (blk_cell BK101.out 2).trans rfl
              have hfz48_0 := blk_frozen BK101.out 0
              have hfz48_1 := blk_frozen BK101.out 1
              have hfz48_2 := blk_frozen BK101.out 2
              try go_wp2_with (first | ((with_reducible refine gate_callee (f := 28) rfl ?_); refine goesL_ (some 70) rfl rfl Try.func28 (by kernel_rfl) rfl #[.agg #[.string a0_0, .slice A0_1 l0_1.length c0_1, .slice A0_2 l0_2.length c0_2]] rfl (by (try simp only [List.map_toArray, List.map_cons, List.map_nil]); first | done | rfl | (simp only [List.length_drop, List.length_take]; rfl)) ?_; (with_reducible refine (safe_Check.calls k3 a0_0 _ _ l0_1 _ _ l0_2 t123 t124 t125 _ ?side1 ?side2 ?side3 ?side4 A38.out).mono ?_); (case side1 => repeat (first | exact (Kd.C_below HR0_1.out HB.out) | (with_reducible refine Kd.C_alloc ?_ _) | (with_reducible refine Kd.C_drewN ?_ _) | (with_reducible refine Kd.C_drew ?_))); (case side2 => exact HC0_1.out); (case side3 => repeat (first | exact (Kd.V_reads' HO_102002.out).2.2 | (with_reducible refine Kd.C_alloc ?_ _) | (with_reducible refine Kd.C_drewN ?_ _) | (with_reducible refine Kd.C_drew ?_))); (case side4 => exact (Kd.V_reads' HO_102002.out).2.1); rintro e w49 ⟨rfl, hb⟩; refine ⟨_, rfl, ?_⟩; have n0_ := Aside0.mk (Kd.R_below (by (with_reducible repeat (first | apply Kd.R_alloc | apply Kd.R_drewN | apply Kd.R_drew)); exact HO_6.out) hb); have n1_ := Aside0.mk (Kd.V_below (by (with_reducible repeat (first | apply Kd.V_alloc | apply Kd.V_drewN | apply Kd.V_drew)); exact HO_102002.out) hb); have n2_ := Aside0.mk (Kd.V_below (by (with_reducible repeat (first | apply Kd.V_alloc | apply Kd.V_drewN | apply Kd.V_drew)); exact HO_103001.out) hb); have n3_ := Aside0.mk (blk_below (g := gb101) (o := .cells #[.string a0_0, .slice A0_1 l0_1.length c0_1, .slice A0_2 l0_2.length c0_2] 27 (0, 0)) (by (with_reducible repeat (first | refine blk_drewN ?_ _ | refine blk_drew ?_ | refine blk_alloc ?_ _)); exact BK101.out) hb); have n4_ := Aside0.mk (blk_below (g := gb102) (o := .cells #[.string a1_0, .slice A1_1 l1_1.length c1_1] 24 (0, 0)) (by (with_reducible repeat (first | refine blk_drewN ?_ _ | refine blk_drew ?_ | refine blk_alloc ?_ _)); exact BK102.out) hb); have n5_ := Aside0.mk (below_step (by repeat (first | (with_reducible first | exact HB.out | apply below_alloc | apply pw_below_drewN | apply below_drew1 | refine below_set ?_ GE101.out | refine below_set ?_ GE102.out) | exact HB.out)) hb); clear HO_6; clear HO_102002; clear HO_103001; clear BK101; clear BK102; clear HB; have HO_6 := n0_; have HO_102002 := n1_; have HO_103001 := n2_; have BK101 := n3_; have BK102 := n4_; have HB := n5_; clear n0_ n1_ n2_ n3_ n4_ n5_; (try clear hb); (try clear hb2); (try clear hk); (try clear hi)))
              have n0_ := Aside0.mk (Kd.R_drew HO_6.out)
              have n1_ := Aside0.mk (Kd.V_drew HO_102002.out)
              have n2_ := Aside0.mk (Kd.V_drew HO_103001.out)
              have n3_ := Aside0.mk (blk_drew BK101.out)
              have n4_ := Aside0.mk (blk_drew BK102.out)
              have n5_ := Aside0.mk (below_drew1 HB.out)
              clear HO_6
              clear HO_102002
              clear HO_103001
              clear BK101
              clear BK102
              clear HB
              have HO_6 := n0_
              have HO_102002 := n1_
              have HO_103001 := n2_
              have BK101 := n3_
              have BK102 := n4_
              have HB := n5_
              clear n0_ n1_ n2_ n3_ n4_ n5_
              obtain ⟨Ao51, co51, eo51⟩ := Kd.R_slice HO_6.out
              (first | subst eo51 | (injection eo51 with f1_ f2_ f3_; have f4_ := f1_.symm; have f5_ := f3_.symm; clear f1_ f2_ f3_; subst f4_; subst f5_))
              refine start_ (n := 20) (S := fun w' => w'.cell? ⟨gb101, 0, none⟩ = some (.string a0_0) ∧ w'.cell? ⟨gb101, 1, none⟩ = some (.slice A0_1 l0_1.length c0_1) ∧ w'.cell? ⟨gb101, 2, none⟩ = some (.slice A0_2 l0_2.length c0_2)) (ds := []) #[ff,ff,ff,ff,ff,ff,ff,ff,ff,ff,ff,ff,ff,ff,ff,ff,ff,ff,ff,ff] (by kernel_rfl) rfl rfl ⟨(blk_cell BK101.out 0).trans rfl, (blk_cell BK101.out 1).trans rfl, (blk_cell BK101.out 2).trans rfl⟩ (fun hHeld => ?_); refine with_tabW lambrequinlaw09_SafeBinds.tab11 lambrequinlaw09_SafeBinds.bits11 (fun HT_ HW_ => ?_)
              generalize w49.drew = w50 at HO_6 HO_102002 HO_103001 BK101 BK102 HB hHeld ⊢
              refine pure_ (i := 0) (N := some 75) (v := ?_) (a' := ?_) #[tt,ff,ff,ff,ff,ff,ff,ff,ff,ff,ff,ff,ff,ff,ff,ff,ff,ff,ff,ff] rfl rfl (any_of HT_.out (by kernel_rfl)) (fun _ _ _ h => h) (Or.inl ⟨by rfl, ?_⟩) ?_ ?_
              rotate_left
              ·intro w'
               go_simp
               with_reducible rfl
              rotate_left
              ·simp only [Act.put, List.setIfInBounds_toArray, List.set_cons_zero, List.set_cons_succ, i64_w, i32_w]
               rfl
              refine pure_ (i := 3) (N := some 78) (v := ?_) (a' := ?_) #[tt,ff,ff,tt,ff,ff,ff,ff,ff,ff,ff,ff,ff,ff,ff,ff,ff,ff,ff,ff] rfl rfl (any_of HT_.out (by kernel_rfl)) (fun _ _ _ h => h) (Or.inl ⟨by rfl, ?_⟩) ?_ ?_
              rotate_left
              ·intro w'
               go_simp
               with_reducible rfl
              rotate_left
              ·simp only [Act.put, List.setIfInBounds_toArray, List.set_cons_zero, List.set_cons_succ, i64_w, i32_w]
               rfl
              refine pure_ (i := 6) (N := some 81) (v := ?_) (a' := ?_) #[tt,ff,ff,tt,ff,ff,tt,ff,ff,ff,ff,ff,ff,ff,ff,ff,ff,ff,ff,ff] rfl rfl (any_of HT_.out (by kernel_rfl)) (fun _ _ _ h => h) (Or.inl ⟨by rfl, ?_⟩) ?_ ?_
              rotate_left
              ·intro w'
               go_simp
               with_reducible rfl
              rotate_left
              ·simp only [Act.put, List.setIfInBounds_toArray, List.set_cons_zero, List.set_cons_succ, i64_w, i32_w]
               rfl
              refine pure_ (i := 7) (N := some 82) (v := ?_) (a' := ?_) #[tt,ff,ff,tt,ff,ff,tt,tt,ff,ff,ff,ff,ff,ff,ff,ff,ff,ff,ff,ff] rfl rfl (any_of HT_.out (by kernel_rfl)) (fun _ _ _ h => h) (Or.inl ⟨by rfl, ?_⟩) ?_ ?_
              rotate_left
              ·intro w'
               go_simp
               with_reducible rfl
              rotate_left
              ·simp only [Act.put, List.setIfInBounds_toArray, List.set_cons_zero, List.set_cons_succ, i64_w, i32_w]
               rfl
              refine pure_ (i := 8) (N := some 83) (v := ?_) (a' := ?_) #[tt,ff,ff,tt,ff,ff,tt,tt,tt,ff,ff,ff,ff,ff,ff,ff,ff,ff,ff,ff] rfl rfl (any_of HT_.out (by kernel_rfl)) (fun _ _ _ h => h) (Or.inl ⟨by rfl, ?_⟩) ?_ ?_
              rotate_left
              ·intro w'
               go_simp
               with_reducible rfl
              rotate_left
              ·simp only [Act.put, List.setIfInBounds_toArray, List.set_cons_zero, List.set_cons_succ, i64_w, i32_w]
               rfl
              refine take_ (i := 1) (N := some 76) (v := ?_) (a' := ?_) #[tt,tt,ff,tt,ff,ff,tt,tt,tt,ff,ff,ff,ff,ff,ff,ff,ff,ff,ff,ff] rfl rfl (take_ofW HT_.out HW_.out (by kernel_rfl)) (fun _ _ _ h => h) (Or.inl ⟨by rfl, ?_⟩) hHeld ?_ ?_
              rotate_left
              ·rintro w' ⟨s0, s1, s2⟩
               go_simp
               with_reducible rfl
              rotate_left
              ·simp only [Act.put, List.setIfInBounds_toArray, List.set_cons_zero, List.set_cons_succ, i64_w, i32_w]
               rfl
              refine take_ (i := 4) (N := some 79) (v := ?_) (a' := ?_) #[tt,tt,ff,tt,tt,ff,tt,tt,tt,ff,ff,ff,ff,ff,ff,ff,ff,ff,ff,ff] rfl rfl (take_ofW HT_.out HW_.out (by kernel_rfl)) (fun _ _ _ h => h) (Or.inl ⟨by rfl, ?_⟩) hHeld ?_ ?_
              rotate_left
              ·rintro w' ⟨s0, s1, s2⟩
               go_simp
               with_reducible rfl
              rotate_left
              ·simp only [Act.put, List.setIfInBounds_toArray, List.set_cons_zero, List.set_cons_succ, i64_w, i32_w]
               rfl
              refine join_ (σ := Value × Value × Value) 10 #[tt,tt,tt,tt,tt,tt,tt,tt,tt,tt,ff,ff,ff,ff,ff,ff,ff,ff,ff,ff] (fun s_ => [(77, s_.1), (80, s_.2.1), (84, s_.2.2)]) (fun s_ w' => (w'.cell? ⟨gb101, 0, none⟩ = some (.string a0_0) ∧ w'.cell? ⟨gb101, 1, none⟩ = some (.slice A0_1 l0_1.length c0_1) ∧ w'.cell? ⟨gb101, 2, none⟩ = some (.slice A0_2 l0_2.length c0_2)) ∧ (Kd.N k47 47 w' w.heap.size (fun k_ => ((P0_2_ k_ ∨ P1_1_ k_) ∨ w.heap.size ≤ k_) ∧ some k_ ≠ (s_.2.2 : Value).ownBlock ∧ k_ ≠ gb101 ∧ k_ ≠ gb102) s_.2.1 y129) ∧ (Kd.N k47 47 w' w.heap.size (fun k_ => ((P0_2_ k_ ∨ P1_1_ k_) ∨ w.heap.size ≤ k_) ∧ some k_ ≠ (s_.2.1 : Value).ownBlock ∧ k_ ≠ gb101 ∧ k_ ≠ gb102) s_.2.2 y132) ∧ (Kd.V k47 47 w' w.heap.size (fun k_ => ((P0_2_ k_ ∨ P1_1_ k_) ∨ w.heap.size ≤ k_) ∧ some k_ ≠ (s_.2.1 : Value).ownBlock ∧ some k_ ≠ (s_.2.2 : Value).ownBlock ∧ k_ ≠ gb101 ∧ k_ ≠ gb102) (.slice A0_2 l0_2.length c0_2) l0_2) ∧ (Kd.V k45 45 w' w.heap.size (fun k_ => ((P0_2_ k_ ∨ P1_1_ k_) ∨ w.heap.size ≤ k_) ∧ some k_ ≠ (s_.2.1 : Value).ownBlock ∧ some k_ ≠ (s_.2.2 : Value).ownBlock ∧ k_ ≠ gb101 ∧ k_ ≠ gb102) (.slice A1_1 l1_1.length c1_1) l1_1) ∧ (w'.heap[gb101]? = some (.cells #[.string a0_0, .slice A0_1 l0_1.length c0_1, .slice A0_2 l0_2.length c0_2] 27 (0, 0))) ∧ (w'.heap[gb102]? = some (.cells #[.string a1_0, .slice A1_1 l1_1.length c1_1] 24 (0, 0))) ∧ (Below w.heap.size w w')) ?_ ?_
              rotate_left
              ·intro hCont
               refine two_ (i := 2) (j := 9) (Ni := some 77) (Nj := some 84) #[tt,tt,tt,tt,tt,ff,tt,tt,tt,ff,ff,ff,ff,ff,ff,ff,ff,ff,ff,ff] #[tt,tt,ff,tt,tt,ff,tt,tt,tt,tt,ff,ff,ff,ff,ff,ff,ff,ff,ff,ff] rfl rfl rfl rfl (two_of HT_.out (by kernel_rfl)) (by decide) (by decide) (fun K hK => ?_) (fun K hK => ?_)
               ·skip
                refine Kd.N_lit_step k47 _ 47 ?hg (N' := 77) ?hd (xs := ([] : List (Liter))) (inner := []) (ok := (fun k_ => ((P0_2_ k_ ∨ P1_1_ k_) ∨ w.heap.size ≤ k_) ∧ some k_ ≠ (.slice Ao51 x6_3.length co51 : Value).ownBlock ∧ k_ ≠ gb101 ∧ k_ ≠ gb102)) (okp := (fun k_ => ((P0_2_ k_ ∨ P1_1_ k_) ∨ w.heap.size ≤ k_) ∧ some k_ ≠ (.slice Ao51 x6_3.length co51 : Value).ownBlock ∧ k_ ≠ gb101 ∧ k_ ≠ gb102)) ?hr ?hp (fun _ hk => hk) ((show ∀ k_, w50.heap.size ≤ k_ → (fun k_ => ((P0_2_ k_ ∨ P1_1_ k_) ∨ w.heap.size ≤ k_) ∧ some k_ ≠ (.slice Ao51 x6_3.length co51 : Value).ownBlock ∧ k_ ≠ gb101 ∧ k_ ≠ gb102) k_ from fun k_ hk => ⟨(.inr (Nat.le_trans (below_size (by repeat (first | (with_reducible first | exact HB.out | apply below_alloc | apply pw_below_drewN | apply below_drew1 | refine below_set ?_ GE101.out | refine below_set ?_ GE102.out) | exact HB.out))) hk)), Kd.fresh' (Kd.R_lt (by (with_reducible repeat (first | apply Kd.R_alloc | apply Kd.R_drewN | apply Kd.R_drew)); exact HO_6.out)) k_ hk, Kd.freshB (g := gb101) (o := .cells #[.string a0_0, .slice A0_1 l0_1.length c0_1, .slice A0_2 l0_2.length c0_2] 27 (0, 0)) (by (with_reducible repeat (first | refine blk_drewN ?_ _ | refine blk_drew ?_ | refine blk_alloc ?_ _)); exact BK101.out) k_ hk, Kd.freshB (g := gb102) (o := .cells #[.string a1_0, .slice A1_1 l1_1.length c1_1] 24 (0, 0)) (by (with_reducible repeat (first | refine blk_drewN ?_ _ | refine blk_drew ?_ | refine blk_alloc ?_ _)); exact BK102.out) k_ hk⟩) _ (Nat.le_refl _)) (Below.refl _ _) (Nat.le_refl _) (by simp) ?_; (case hd => rfl); (case hg => rfl); (case hr => first | (go_simp; done) | (go_simp; rfl)); (case hp => exact (Reps.none _ _))
                intro v127 w52 ho53 hb hg_ hnew_
                clear hg_ hnew_
                (first | rw [← Ny126.out] at ho53 | (simp only [Int.reduceToNat] at ho53; rw [← Ny126.out] at ho53))
                have n0_ := Aside0.mk (Kd.R_below (by (with_reducible repeat (first | apply Kd.R_alloc | apply Kd.R_drewN | apply Kd.R_drew)); exact HO_6.out) hb)
                have n1_ := Aside0.mk (Kd.V_elder' (by (with_reducible repeat (first | apply Kd.V_alloc | apply Kd.V_drewN | apply Kd.V_drew)); exact HO_102002.out) (Kd.N_base ho53) hb)
                have n2_ := Aside0.mk (Kd.V_elder' (by (with_reducible repeat (first | apply Kd.V_alloc | apply Kd.V_drewN | apply Kd.V_drew)); exact HO_103001.out) (Kd.N_base ho53) hb)
                have n3_ := Aside0.mk (Kd.N_lower ho53 (below_size (by repeat (first | (with_reducible first | exact HB.out | apply below_alloc | apply pw_below_drewN | apply below_drew1 | refine below_set ?_ GE101.out | refine below_set ?_ GE102.out) | exact HB.out))))
                have n4_ := Aside0.mk (blk_below (g := gb101) (o := .cells #[.string a0_0, .slice A0_1 l0_1.length c0_1, .slice A0_2 l0_2.length c0_2] 27 (0, 0)) (by (with_reducible repeat (first | refine blk_drewN ?_ _ | refine blk_drew ?_ | refine blk_alloc ?_ _)); exact BK101.out) hb)
                have n5_ := Aside0.mk (blk_below (g := gb102) (o := .cells #[.string a1_0, .slice A1_1 l1_1.length c1_1] 24 (0, 0)) (by (with_reducible repeat (first | refine blk_drewN ?_ _ | refine blk_drew ?_ | refine blk_alloc ?_ _)); exact BK102.out) hb)
                have n6_ := Aside0.mk (below_step (by repeat (first | (with_reducible first | exact HB.out | apply below_alloc | apply pw_below_drewN | apply below_drew1 | refine below_set ?_ GE101.out | refine below_set ?_ GE102.out) | exact HB.out)) hb)
                clear HO_6
                clear HO_102002
                clear HO_103001
                clear BK101
                clear BK102
                clear HB
                have HO_6 := n0_
                have HO_102002 := n1_
                have HO_103001 := n2_
                have HO128 := n3_
                have BK101 := n4_
                have BK102 := n5_
                have HB := n6_
                clear n0_ n1_ n2_ n3_ n4_ n5_ n6_
                clear hb ho53
                refine hK.out _ _ ⟨(blk_cell BK101.out 0).trans rfl, (blk_cell BK101.out 1).trans rfl, (blk_cell BK101.out 2).trans rfl⟩ (fun hHeld => ?_)
                clear hK K
                refine norm_ (a' := ?_) ?_ ?_
                rotate_left
                ·show Act.put _ (some 77) _ = _
                 simp only [Act.put, List.setIfInBounds_toArray, List.set_cons_zero, List.set_cons_succ, i64_w, i32_w]
                 rfl
                refine two_ (i := 5) (j := 9) (Ni := some 80) (Nj := some 84) #[tt,tt,tt,tt,tt,tt,tt,tt,tt,ff,ff,ff,ff,ff,ff,ff,ff,ff,ff,ff] #[tt,tt,tt,tt,tt,ff,tt,tt,tt,tt,ff,ff,ff,ff,ff,ff,ff,ff,ff,ff] rfl rfl rfl rfl (two_of HT_.out (by kernel_rfl)) (by decide) (by decide) (fun K hK => ?_) (fun K hK => ?_)
                ·skip
                 refine Kd.N_append_rows_step k47 (w0 := w) w.heap.size (by rfl) (.tmp 77) (.tmp 79) 25 47 (.agg #[(.int .i64 0), (.string ⟨#[]⟩), (.slice none 0 0), (.string ⟨#[]⟩), (.bool false), (.string ⟨#[]⟩), (.bool false), (.string ⟨#[]⟩), (.int .i64 0), (.bool false), (.string ⟨#[]⟩), (.bool false), (.string ⟨#[]⟩), (.int .i64 0)]) 176 rfl Try.underlying25 info47 rfl (by decide) (by omega) v127 y126 l0_2 _ _ _ (fun k_ => ((P0_2_ k_ ∨ P1_1_ k_) ∨ w.heap.size ≤ k_) ∧ some k_ ≠ (.slice Ao51 x6_3.length co51 : Value).ownBlock ∧ k_ ≠ gb101 ∧ k_ ≠ gb102) (fun k_ => ((fun k_ => ((P0_2_ k_ ∨ P1_1_ k_) ∨ w.heap.size ≤ k_) ∧ some k_ ≠ (.slice Ao51 x6_3.length co51 : Value).ownBlock ∧ k_ ≠ gb101 ∧ k_ ≠ gb102)) k_ ∧ some k_ ≠ (v127 : Value).ownBlock) rfl rfl ?aO ?aR (fun _ hk => hk) ?aF ?aB ?aS ?aL ?_
                 (case aR => exact (by skip; exact Kd.V_F (Kd.V_mono (ok' := (fun k_ => ((fun k_ => ((P0_2_ k_ ∨ P1_1_ k_) ∨ w.heap.size ≤ k_) ∧ some k_ ≠ (.slice Ao51 x6_3.length co51 : Value).ownBlock ∧ k_ ≠ gb101 ∧ k_ ≠ gb102)) k_ ∧ some k_ ≠ (v127 : Value).ownBlock)) (HO_102002.out) (fun k_ hk => ⟨⟨hk.1.1, ⟨hk.1.2.1, ⟨hk.1.2.2.1, hk.1.2.2.2⟩⟩⟩, hk.2⟩))))
                 (case aB => exact (by repeat (first | (with_reducible first | exact HB.out | apply below_alloc | apply pw_below_drewN | apply below_drew1 | refine below_set ?_ GE101.out | refine below_set ?_ GE102.out) | exact HB.out)))
                 (case aF => exact (fun k_ hk => ⟨(.inr (Nat.le_trans (below_size (by repeat (first | (with_reducible first | exact HB.out | apply below_alloc | apply pw_below_drewN | apply below_drew1 | refine below_set ?_ GE101.out | refine below_set ?_ GE102.out) | exact HB.out))) hk)), Kd.fresh' (Kd.R_lt (by (with_reducible repeat (first | apply Kd.R_alloc | apply Kd.R_drewN | apply Kd.R_drew)); exact HO_6.out)) k_ hk, Kd.freshB (g := gb101) (o := .cells #[.string a0_0, .slice A0_1 l0_1.length c0_1, .slice A0_2 l0_2.length c0_2] 27 (0, 0)) (by (with_reducible repeat (first | refine blk_drewN ?_ _ | refine blk_drew ?_ | refine blk_alloc ?_ _)); exact BK101.out) k_ hk, Kd.freshB (g := gb102) (o := .cells #[.string a1_0, .slice A1_1 l1_1.length c1_1] 24 (0, 0)) (by (with_reducible repeat (first | refine blk_drewN ?_ _ | refine blk_drew ?_ | refine blk_alloc ?_ _)); exact BK102.out) k_ hk⟩))
                 (case aO => exact (by (with_reducible repeat (first | apply Kd.N_alloc | apply Kd.N_drewN | apply Kd.N_drew)); exact HO128.out))
                 (case aS => exact (below_size (by repeat (first | (with_reducible first | exact HB.out | apply below_alloc | apply pw_below_drewN | apply below_drew1 | refine below_set ?_ GE101.out | refine below_set ?_ GE102.out) | exact HB.out))))
                 (case aL => have := LMc39.out; omega)
                 intro v130 w54 ho hb hg hat
                 rw [← Ny129.out] at ho
                 have n0_ := Aside0.mk (Kd.R_over' (by (with_reducible repeat (first | apply Kd.R_alloc | apply Kd.R_drewN | apply Kd.R_drew)); exact HO_6.out) (Kd.N_typed (by (with_reducible repeat (first | apply Kd.N_alloc | apply Kd.N_drewN | apply Kd.N_drew)); exact HO128.out)) (by decide) hg)
                 have n1_ := Aside0.mk (Kd.V_afterv (ok := (fun k_ => ((P0_2_ k_ ∨ P1_1_ k_) ∨ w.heap.size ≤ k_) ∧ some k_ ≠ (.slice Ao51 x6_3.length co51 : Value).ownBlock ∧ k_ ≠ gb101 ∧ k_ ≠ gb102)) (by (with_reducible repeat (first | apply Kd.V_alloc | apply Kd.V_drewN | apply Kd.V_drew)); exact HO_102002.out) hg hat)
                 have n2_ := Aside0.mk (Kd.V_afterv (ok := (fun k_ => ((P0_2_ k_ ∨ P1_1_ k_) ∨ w.heap.size ≤ k_) ∧ some k_ ≠ (.slice Ao51 x6_3.length co51 : Value).ownBlock ∧ k_ ≠ gb101 ∧ k_ ≠ gb102)) (by (with_reducible repeat (first | apply Kd.V_alloc | apply Kd.V_drewN | apply Kd.V_drew)); exact HO_103001.out) hg hat)
                 have n3_ := Aside0.mk (blk_grown (g := gb101) (o := .cells #[.string a0_0, .slice A0_1 l0_1.length c0_1, .slice A0_2 l0_2.length c0_2] 27 (0, 0)) (by (with_reducible repeat (first | refine blk_drewN ?_ _ | refine blk_drew ?_ | refine blk_alloc ?_ _)); exact BK101.out) hg (Kd.N_ne HO128.out BK101.out (by decide)))
                 have n4_ := Aside0.mk (blk_grown (g := gb102) (o := .cells #[.string a1_0, .slice A1_1 l1_1.length c1_1] 24 (0, 0)) (by (with_reducible repeat (first | refine blk_drewN ?_ _ | refine blk_drew ?_ | refine blk_alloc ?_ _)); exact BK102.out) hg (Kd.N_ne HO128.out BK102.out (by decide)))
                 have n5_ := Aside0.mk (hb)
                 have n6_ := Aside0.mk (ho)
                 clear HO_6
                 clear HO_102002
                 clear HO_103001
                 clear BK101
                 clear BK102
                 clear HB
                 clear HO128
                 have HO_6 := n0_
                 have HO_102002 := n1_
                 have HO_103001 := n2_
                 have BK101 := n3_
                 have BK102 := n4_
                 have HB := n5_
                 have HO131 := n6_
                 clear n0_ n1_ n2_ n3_ n4_ n5_ n6_
                 clear ho hb hg hat
                 refine hK.out _ _ ⟨(blk_cell BK101.out 0).trans rfl, (blk_cell BK101.out 1).trans rfl, (blk_cell BK101.out 2).trans rfl⟩ (fun hHeld => ?_)
                 clear hK K
                 refine norm_ (a' := ?_) ?_ ?_
                 rotate_left
                 ·show Act.put _ (some 80) _ = _
                  simp only [Act.put, List.setIfInBounds_toArray, List.set_cons_zero, List.set_cons_succ, i64_w, i32_w]
                  rfl
                 refine one_ (i := 9) (N := some 84) #[tt,tt,tt,tt,tt,tt,tt,tt,tt,tt,ff,ff,ff,ff,ff,ff,ff,ff,ff,ff] rfl rfl (one_of HT_.out (by kernel_rfl)) (by decide) (fun K hK => ?_)
                 refine Kd.N_lit_step k47 _ 47 ?hg (N' := 84) ?hd (xs := ([(⟨1, (⟨(⟨#[97, 108, 108]⟩ : ByteArray), x6_3⟩ : Atom), (⟨#[]⟩ : ByteArray), (⟨false, (⟨#[]⟩ : ByteArray), (⟨false, (⟨#[]⟩ : ByteArray), 0⟩ : Val)⟩ : Term), (⟨false, (⟨#[]⟩ : ByteArray), (⟨false, (⟨#[]⟩ : ByteArray), 0⟩ : Val)⟩ : Term)⟩ : Liter)] : List (Liter))) (inner := [.int .i64 1, .string (⟨#[97, 108, 108]⟩ : ByteArray), .slice Ao51 x6_3.length co51, .string (⟨#[]⟩ : ByteArray), .bool false, .string (⟨#[]⟩ : ByteArray), .bool false, .string (⟨#[]⟩ : ByteArray), .int .i64 0, .bool false, .string (⟨#[]⟩ : ByteArray), .bool false, .string (⟨#[]⟩ : ByteArray), .int .i64 0]) (ok := (fun k_ => ((P0_2_ k_ ∨ P1_1_ k_) ∨ w.heap.size ≤ k_) ∧ some k_ ≠ (v130 : Value).ownBlock ∧ k_ ≠ gb101 ∧ k_ ≠ gb102)) (okp := (fun k_ => ((P0_2_ k_ ∨ P1_1_ k_) ∨ w.heap.size ≤ k_) ∧ some k_ ≠ (v130 : Value).ownBlock ∧ k_ ≠ gb101 ∧ k_ ≠ gb102)) ?hr ?hp (fun _ hk => hk) ((show ∀ k_, w54.heap.size ≤ k_ → (fun k_ => ((P0_2_ k_ ∨ P1_1_ k_) ∨ w.heap.size ≤ k_) ∧ some k_ ≠ (v130 : Value).ownBlock ∧ k_ ≠ gb101 ∧ k_ ≠ gb102) k_ from fun k_ hk => ⟨(.inr (Nat.le_trans (below_size (by repeat (first | (with_reducible first | exact HB.out | apply below_alloc | apply pw_below_drewN | apply below_drew1 | refine below_set ?_ GE101.out | refine below_set ?_ GE102.out) | exact HB.out))) hk)), Kd.fresh' (Kd.N_lt (by (with_reducible repeat (first | apply Kd.N_alloc | apply Kd.N_drewN | apply Kd.N_drew)); exact HO131.out)) k_ hk, Kd.freshB (g := gb101) (o := .cells #[.string a0_0, .slice A0_1 l0_1.length c0_1, .slice A0_2 l0_2.length c0_2] 27 (0, 0)) (by (with_reducible repeat (first | refine blk_drewN ?_ _ | refine blk_drew ?_ | refine blk_alloc ?_ _)); exact BK101.out) k_ hk, Kd.freshB (g := gb102) (o := .cells #[.string a1_0, .slice A1_1 l1_1.length c1_1] 24 (0, 0)) (by (with_reducible repeat (first | refine blk_drewN ?_ _ | refine blk_drew ?_ | refine blk_alloc ?_ _)); exact BK102.out) k_ hk⟩) _ (Nat.le_refl _)) (Below.refl _ _) (Nat.le_refl _) (by simp) ?_; (case hd => rfl); (case hg => rfl); (case hr => first | (go_simp; done) | (go_simp; rfl)); (case hp => exact (Reps.front (show Kd.FK k47 _ _ (⟨1, (⟨(⟨#[97, 108, 108]⟩ : ByteArray), x6_3⟩ : Atom), (⟨#[]⟩ : ByteArray), (⟨false, (⟨#[]⟩ : ByteArray), (⟨false, (⟨#[]⟩ : ByteArray), 0⟩ : Val)⟩ : Term), (⟨false, (⟨#[]⟩ : ByteArray), (⟨false, (⟨#[]⟩ : ByteArray), 0⟩ : Val)⟩ : Term)⟩ : Liter) [.int .i64 1, .string (⟨#[97, 108, 108]⟩ : ByteArray), .slice Ao51 x6_3.length co51, .string (⟨#[]⟩ : ByteArray), .bool false, .string (⟨#[]⟩ : ByteArray), .bool false, .string (⟨#[]⟩ : ByteArray), .int .i64 0, .bool false, .string (⟨#[]⟩ : ByteArray), .bool false, .string (⟨#[]⟩ : ByteArray), .int .i64 0] from (k47_mkF _ _ (⟨1, (⟨(⟨#[97, 108, 108]⟩ : ByteArray), x6_3⟩ : Atom), (⟨#[]⟩ : ByteArray), (⟨false, (⟨#[]⟩ : ByteArray), (⟨false, (⟨#[]⟩ : ByteArray), 0⟩ : Val)⟩ : Term), (⟨false, (⟨#[]⟩ : ByteArray), (⟨false, (⟨#[]⟩ : ByteArray), 0⟩ : Val)⟩ : Term)⟩ : Liter) (Kd.R_reads' (Kd.R_mono (ok' := (fun k_ => ((P0_2_ k_ ∨ P1_1_ k_) ∨ w.heap.size ≤ k_) ∧ some k_ ≠ (v130 : Value).ownBlock ∧ k_ ≠ gb101 ∧ k_ ≠ gb102)) (Kd.R_types (Kd.R_types (Kd.R_apart' (HO_6.out) (Kd.N_typed HO131.out) (by decide)) BK101.out (by decide)) BK102.out (by decide)) (fun k_ hk => ⟨(.inr (hk.1.1.1)), ⟨hk.1.1.2, ⟨hk.1.2, hk.2⟩⟩⟩))).2.1 (Kd.R_F (Kd.R_mono (ok' := (fun k_ => ((P0_2_ k_ ∨ P1_1_ k_) ∨ w.heap.size ≤ k_) ∧ some k_ ≠ (v130 : Value).ownBlock ∧ k_ ≠ gb101 ∧ k_ ≠ gb102)) (Kd.R_types (Kd.R_types (Kd.R_apart' (HO_6.out) (Kd.N_typed HO131.out) (by decide)) BK101.out (by decide)) BK102.out (by decide)) (fun k_ hk => ⟨(.inr (hk.1.1.1)), ⟨hk.1.1.2, ⟨hk.1.2, hk.2⟩⟩⟩))))) rfl (Reps.none _ _) rfl))
                 intro v133 w55 ho56 hb hg_ hnew_
                 clear hg_ hnew_
                 (first | rw [← Ny132.out] at ho56 | (simp only [Int.reduceToNat] at ho56; rw [← Ny132.out] at ho56))
                 have n0_ := Aside0.mk (Kd.V_elder' (by (with_reducible repeat (first | apply Kd.V_alloc | apply Kd.V_drewN | apply Kd.V_drew)); exact HO_102002.out) (Kd.N_base ho56) hb)
                 have n1_ := Aside0.mk (Kd.V_elder' (by (with_reducible repeat (first | apply Kd.V_alloc | apply Kd.V_drewN | apply Kd.V_drew)); exact HO_103001.out) (Kd.N_base ho56) hb)
                 have n2_ := Aside0.mk (Kd.N_elder' (by (with_reducible repeat (first | apply Kd.N_alloc | apply Kd.N_drewN | apply Kd.N_drew)); exact HO131.out) (Kd.N_base ho56) hb)
                 have n3_ := Aside0.mk (Kd.N_lower ho56 (below_size (by repeat (first | (with_reducible first | exact HB.out | apply below_alloc | apply pw_below_drewN | apply below_drew1 | refine below_set ?_ GE101.out | refine below_set ?_ GE102.out) | exact HB.out))))
                 have n4_ := Aside0.mk (blk_below (g := gb101) (o := .cells #[.string a0_0, .slice A0_1 l0_1.length c0_1, .slice A0_2 l0_2.length c0_2] 27 (0, 0)) (by (with_reducible repeat (first | refine blk_drewN ?_ _ | refine blk_drew ?_ | refine blk_alloc ?_ _)); exact BK101.out) hb)
                 have n5_ := Aside0.mk (blk_below (g := gb102) (o := .cells #[.string a1_0, .slice A1_1 l1_1.length c1_1] 24 (0, 0)) (by (with_reducible repeat (first | refine blk_drewN ?_ _ | refine blk_drew ?_ | refine blk_alloc ?_ _)); exact BK102.out) hb)
                 have n6_ := Aside0.mk (below_step (by repeat (first | (with_reducible first | exact HB.out | apply below_alloc | apply pw_below_drewN | apply below_drew1 | refine below_set ?_ GE101.out | refine below_set ?_ GE102.out) | exact HB.out)) hb)
                 clear HO_102002
                 clear HO_103001
                 clear HO131
                 clear BK101
                 clear BK102
                 clear HB
                 clear HO_6
                 have HO_102002 := n0_
                 have HO_103001 := n1_
                 have HO131 := n2_
                 have HO134 := n3_
                 have BK101 := n4_
                 have BK102 := n5_
                 have HB := n6_
                 clear n0_ n1_ n2_ n3_ n4_ n5_ n6_
                 clear hb ho56
                 refine hK.out _ _ ⟨(blk_cell BK101.out 0).trans rfl, (blk_cell BK101.out 1).trans rfl, (blk_cell BK101.out 2).trans rfl⟩ (fun hHeld => ?_)
                 clear hK K
                 refine norm_ (a' := ?_) ?_ ?_
                 rotate_left
                 ·show Act.put _ (some 84) _ = _
                  simp only [Act.put, List.setIfInBounds_toArray, List.set_cons_zero, List.set_cons_succ, i64_w, i32_w]
                  rfl
                 exact norm_ (by simp only [putAll, Act.put, List.setIfInBounds_toArray, List.set_cons_zero, List.set_cons_succ]) (hCont (v127, v130, v133) _ ⟨hHeld, (by (with_reducible repeat (first | apply Kd.N_alloc | apply Kd.N_drewN | apply Kd.N_drew)); exact Kd.N_mono HO131.out (fun _ hk => ⟨hk.1.1, ⟨hk.2, ⟨hk.1.2.2.1, hk.1.2.2.2⟩⟩⟩)), (by (with_reducible repeat (first | apply Kd.N_alloc | apply Kd.N_drewN | apply Kd.N_drew)); exact HO134.out), (by (with_reducible repeat (first | apply Kd.V_alloc | apply Kd.V_drewN | apply Kd.V_drew)); exact Kd.V_mono HO_102002.out (fun _ hk => ⟨hk.1.1.1, ⟨hk.1.2, ⟨hk.2, ⟨hk.1.1.2.2.1, hk.1.1.2.2.2⟩⟩⟩⟩)), (by (with_reducible repeat (first | apply Kd.V_alloc | apply Kd.V_drewN | apply Kd.V_drew)); exact Kd.V_mono HO_103001.out (fun _ hk => ⟨hk.1.1.1, ⟨hk.1.2, ⟨hk.2, ⟨hk.1.1.2.2.1, hk.1.1.2.2.2⟩⟩⟩⟩)), (by (with_reducible repeat (first | refine blk_drewN ?_ _ | refine blk_drew ?_ | refine blk_alloc ?_ _)); exact BK101.out), (by (with_reducible repeat (first | refine blk_drewN ?_ _ | refine blk_drew ?_ | refine blk_alloc ?_ _)); exact BK102.out), (by repeat (first | (with_reducible first | exact HB.out | apply below_alloc | apply pw_below_drewN | apply below_drew1 | refine below_set ?_ GE101.out | refine below_set ?_ GE102.out) | exact HB.out))⟩)
                ·skip
                 refine Kd.N_lit_step k47 _ 47 ?hg (N' := 84) ?hd (xs := ([(⟨1, (⟨(⟨#[97, 108, 108]⟩ : ByteArray), x6_3⟩ : Atom), (⟨#[]⟩ : ByteArray), (⟨false, (⟨#[]⟩ : ByteArray), (⟨false, (⟨#[]⟩ : ByteArray), 0⟩ : Val)⟩ : Term), (⟨false, (⟨#[]⟩ : ByteArray), (⟨false, (⟨#[]⟩ : ByteArray), 0⟩ : Val)⟩ : Term)⟩ : Liter)] : List (Liter))) (inner := [.int .i64 1, .string (⟨#[97, 108, 108]⟩ : ByteArray), .slice Ao51 x6_3.length co51, .string (⟨#[]⟩ : ByteArray), .bool false, .string (⟨#[]⟩ : ByteArray), .bool false, .string (⟨#[]⟩ : ByteArray), .int .i64 0, .bool false, .string (⟨#[]⟩ : ByteArray), .bool false, .string (⟨#[]⟩ : ByteArray), .int .i64 0]) (ok := (fun k_ => ((P0_2_ k_ ∨ P1_1_ k_) ∨ w.heap.size ≤ k_) ∧ some k_ ≠ (v127 : Value).ownBlock ∧ k_ ≠ gb101 ∧ k_ ≠ gb102)) (okp := (fun k_ => ((P0_2_ k_ ∨ P1_1_ k_) ∨ w.heap.size ≤ k_) ∧ some k_ ≠ (v127 : Value).ownBlock ∧ k_ ≠ gb101 ∧ k_ ≠ gb102)) ?hr ?hp (fun _ hk => hk) ((show ∀ k_, w52.heap.size ≤ k_ → (fun k_ => ((P0_2_ k_ ∨ P1_1_ k_) ∨ w.heap.size ≤ k_) ∧ some k_ ≠ (v127 : Value).ownBlock ∧ k_ ≠ gb101 ∧ k_ ≠ gb102) k_ from fun k_ hk => ⟨(.inr (Nat.le_trans (below_size (by repeat (first | (with_reducible first | exact HB.out | apply below_alloc | apply pw_below_drewN | apply below_drew1 | refine below_set ?_ GE101.out | refine below_set ?_ GE102.out) | exact HB.out))) hk)), Kd.fresh' (Kd.N_lt (by (with_reducible repeat (first | apply Kd.N_alloc | apply Kd.N_drewN | apply Kd.N_drew)); exact HO128.out)) k_ hk, Kd.freshB (g := gb101) (o := .cells #[.string a0_0, .slice A0_1 l0_1.length c0_1, .slice A0_2 l0_2.length c0_2] 27 (0, 0)) (by (with_reducible repeat (first | refine blk_drewN ?_ _ | refine blk_drew ?_ | refine blk_alloc ?_ _)); exact BK101.out) k_ hk, Kd.freshB (g := gb102) (o := .cells #[.string a1_0, .slice A1_1 l1_1.length c1_1] 24 (0, 0)) (by (with_reducible repeat (first | refine blk_drewN ?_ _ | refine blk_drew ?_ | refine blk_alloc ?_ _)); exact BK102.out) k_ hk⟩) _ (Nat.le_refl _)) (Below.refl _ _) (Nat.le_refl _) (by simp) ?_; (case hd => rfl); (case hg => rfl); (case hr => first | (go_simp; done) | (go_simp; rfl)); (case hp => exact (Reps.front (show Kd.FK k47 _ _ (⟨1, (⟨(⟨#[97, 108, 108]⟩ : ByteArray), x6_3⟩ : Atom), (⟨#[]⟩ : ByteArray), (⟨false, (⟨#[]⟩ : ByteArray), (⟨false, (⟨#[]⟩ : ByteArray), 0⟩ : Val)⟩ : Term), (⟨false, (⟨#[]⟩ : ByteArray), (⟨false, (⟨#[]⟩ : ByteArray), 0⟩ : Val)⟩ : Term)⟩ : Liter) [.int .i64 1, .string (⟨#[97, 108, 108]⟩ : ByteArray), .slice Ao51 x6_3.length co51, .string (⟨#[]⟩ : ByteArray), .bool false, .string (⟨#[]⟩ : ByteArray), .bool false, .string (⟨#[]⟩ : ByteArray), .int .i64 0, .bool false, .string (⟨#[]⟩ : ByteArray), .bool false, .string (⟨#[]⟩ : ByteArray), .int .i64 0] from (k47_mkF _ _ (⟨1, (⟨(⟨#[97, 108, 108]⟩ : ByteArray), x6_3⟩ : Atom), (⟨#[]⟩ : ByteArray), (⟨false, (⟨#[]⟩ : ByteArray), (⟨false, (⟨#[]⟩ : ByteArray), 0⟩ : Val)⟩ : Term), (⟨false, (⟨#[]⟩ : ByteArray), (⟨false, (⟨#[]⟩ : ByteArray), 0⟩ : Val)⟩ : Term)⟩ : Liter) (Kd.R_reads' (Kd.R_mono (ok' := (fun k_ => ((P0_2_ k_ ∨ P1_1_ k_) ∨ w.heap.size ≤ k_) ∧ some k_ ≠ (v127 : Value).ownBlock ∧ k_ ≠ gb101 ∧ k_ ≠ gb102)) (Kd.R_types (Kd.R_types (Kd.R_apart' (HO_6.out) (Kd.N_typed HO128.out) (by decide)) BK101.out (by decide)) BK102.out (by decide)) (fun k_ hk => ⟨(.inr (hk.1.1.1)), ⟨hk.1.1.2, ⟨hk.1.2, hk.2⟩⟩⟩))).2.1 (Kd.R_F (Kd.R_mono (ok' := (fun k_ => ((P0_2_ k_ ∨ P1_1_ k_) ∨ w.heap.size ≤ k_) ∧ some k_ ≠ (v127 : Value).ownBlock ∧ k_ ≠ gb101 ∧ k_ ≠ gb102)) (Kd.R_types (Kd.R_types (Kd.R_apart' (HO_6.out) (Kd.N_typed HO128.out) (by decide)) BK101.out (by decide)) BK102.out (by decide)) (fun k_ hk => ⟨(.inr (hk.1.1.1)), ⟨hk.1.1.2, ⟨hk.1.2, hk.2⟩⟩⟩))))) rfl (Reps.none _ _) rfl))
                 intro v133 w54 ho55 hb hg_ hnew_
                 clear hg_ hnew_
                 (first | rw [← Ny132.out] at ho55 | (simp only [Int.reduceToNat] at ho55; rw [← Ny132.out] at ho55))
                 have n0_ := Aside0.mk (Kd.V_elder' (by (with_reducible repeat (first | apply Kd.V_alloc | apply Kd.V_drewN | apply Kd.V_drew)); exact HO_102002.out) (Kd.N_base ho55) hb)
                 have n1_ := Aside0.mk (Kd.V_elder' (by (with_reducible repeat (first | apply Kd.V_alloc | apply Kd.V_drewN | apply Kd.V_drew)); exact HO_103001.out) (Kd.N_base ho55) hb)
                 have n2_ := Aside0.mk (Kd.N_elder' (by (with_reducible repeat (first | apply Kd.N_alloc | apply Kd.N_drewN | apply Kd.N_drew)); exact HO128.out) (Kd.N_base ho55) hb)
                 have n3_ := Aside0.mk (Kd.N_lower ho55 (below_size (by repeat (first | (with_reducible first | exact HB.out | apply below_alloc | apply pw_below_drewN | apply below_drew1 | refine below_set ?_ GE101.out | refine below_set ?_ GE102.out) | exact HB.out))))
                 have n4_ := Aside0.mk (blk_below (g := gb101) (o := .cells #[.string a0_0, .slice A0_1 l0_1.length c0_1, .slice A0_2 l0_2.length c0_2] 27 (0, 0)) (by (with_reducible repeat (first | refine blk_drewN ?_ _ | refine blk_drew ?_ | refine blk_alloc ?_ _)); exact BK101.out) hb)
                 have n5_ := Aside0.mk (blk_below (g := gb102) (o := .cells #[.string a1_0, .slice A1_1 l1_1.length c1_1] 24 (0, 0)) (by (with_reducible repeat (first | refine blk_drewN ?_ _ | refine blk_drew ?_ | refine blk_alloc ?_ _)); exact BK102.out) hb)
                 have n6_ := Aside0.mk (below_step (by repeat (first | (with_reducible first | exact HB.out | apply below_alloc | apply pw_below_drewN | apply below_drew1 | refine below_set ?_ GE101.out | refine below_set ?_ GE102.out) | exact HB.out)) hb)
                 clear HO_102002
                 clear HO_103001
                 clear HO128
                 clear BK101
                 clear BK102
                 clear HB
                 clear HO_6
                 have HO_102002 := n0_
                 have HO_103001 := n1_
                 have HO128 := n2_
                 have HO134 := n3_
                 have BK101 := n4_
                 have BK102 := n5_
                 have HB := n6_
                 clear n0_ n1_ n2_ n3_ n4_ n5_ n6_
                 clear hb ho55
                 refine hK.out _ _ ⟨(blk_cell BK101.out 0).trans rfl, (blk_cell BK101.out 1).trans rfl, (blk_cell BK101.out 2).trans rfl⟩ (fun hHeld => ?_)
                 clear hK K
                 refine norm_ (a' := ?_) ?_ ?_
                 rotate_left
                 ·show Act.put _ (some 84) _ = _
                  simp only [Act.put, List.setIfInBounds_toArray, List.set_cons_zero, List.set_cons_succ, i64_w, i32_w]
                  rfl
                 refine one_ (i := 5) (N := some 80) #[tt,tt,tt,tt,tt,tt,tt,tt,tt,tt,ff,ff,ff,ff,ff,ff,ff,ff,ff,ff] rfl rfl (one_of HT_.out (by kernel_rfl)) (by decide) (fun K hK => ?_)
                 refine Kd.N_append_rows_step k47 (w0 := w) w.heap.size (by rfl) (.tmp 77) (.tmp 79) 25 47 (.agg #[(.int .i64 0), (.string ⟨#[]⟩), (.slice none 0 0), (.string ⟨#[]⟩), (.bool false), (.string ⟨#[]⟩), (.bool false), (.string ⟨#[]⟩), (.int .i64 0), (.bool false), (.string ⟨#[]⟩), (.bool false), (.string ⟨#[]⟩), (.int .i64 0)]) 176 rfl Try.underlying25 info47 rfl (by decide) (by omega) v127 y126 l0_2 _ _ _ (fun k_ => ((P0_2_ k_ ∨ P1_1_ k_) ∨ w.heap.size ≤ k_) ∧ some k_ ≠ (v133 : Value).ownBlock ∧ k_ ≠ gb101 ∧ k_ ≠ gb102) (fun k_ => ((fun k_ => ((P0_2_ k_ ∨ P1_1_ k_) ∨ w.heap.size ≤ k_) ∧ some k_ ≠ (v133 : Value).ownBlock ∧ k_ ≠ gb101 ∧ k_ ≠ gb102)) k_ ∧ some k_ ≠ (v127 : Value).ownBlock) rfl rfl ?aO ?aR (fun _ hk => hk) ?aF ?aB ?aS ?aL ?_
                 (case aR => exact (by skip; exact Kd.V_F (Kd.V_mono (ok' := (fun k_ => ((fun k_ => ((P0_2_ k_ ∨ P1_1_ k_) ∨ w.heap.size ≤ k_) ∧ some k_ ≠ (v133 : Value).ownBlock ∧ k_ ≠ gb101 ∧ k_ ≠ gb102)) k_ ∧ some k_ ≠ (v127 : Value).ownBlock)) (HO_102002.out) (fun k_ hk => ⟨⟨hk.1.1.1, ⟨hk.2, ⟨hk.1.1.2.2.1, hk.1.1.2.2.2⟩⟩⟩, hk.1.2⟩))))
                 (case aB => exact (by repeat (first | (with_reducible first | exact HB.out | apply below_alloc | apply pw_below_drewN | apply below_drew1 | refine below_set ?_ GE101.out | refine below_set ?_ GE102.out) | exact HB.out)))
                 (case aF => exact (fun k_ hk => ⟨(.inr (Nat.le_trans (below_size (by repeat (first | (with_reducible first | exact HB.out | apply below_alloc | apply pw_below_drewN | apply below_drew1 | refine below_set ?_ GE101.out | refine below_set ?_ GE102.out) | exact HB.out))) hk)), Kd.fresh' (Kd.N_lt (by (with_reducible repeat (first | apply Kd.N_alloc | apply Kd.N_drewN | apply Kd.N_drew)); exact HO134.out)) k_ hk, Kd.freshB (g := gb101) (o := .cells #[.string a0_0, .slice A0_1 l0_1.length c0_1, .slice A0_2 l0_2.length c0_2] 27 (0, 0)) (by (with_reducible repeat (first | refine blk_drewN ?_ _ | refine blk_drew ?_ | refine blk_alloc ?_ _)); exact BK101.out) k_ hk, Kd.freshB (g := gb102) (o := .cells #[.string a1_0, .slice A1_1 l1_1.length c1_1] 24 (0, 0)) (by (with_reducible repeat (first | refine blk_drewN ?_ _ | refine blk_drew ?_ | refine blk_alloc ?_ _)); exact BK102.out) k_ hk⟩))
                 (case aO => exact (by (with_reducible repeat (first | apply Kd.N_alloc | apply Kd.N_drewN | apply Kd.N_drew)); exact Kd.N_mono HO128.out (fun _ hk => ⟨hk.1.1, ⟨hk.2, ⟨hk.1.2.2.1, hk.1.2.2.2⟩⟩⟩)))
                 (case aS => exact (below_size (by repeat (first | (with_reducible first | exact HB.out | apply below_alloc | apply pw_below_drewN | apply below_drew1 | refine below_set ?_ GE101.out | refine below_set ?_ GE102.out) | exact HB.out))))
                 (case aL => have := LMc39.out; omega)
                 intro v130 w56 ho hb hg hat
                 rw [← Ny129.out] at ho
                 have n0_ := Aside0.mk (Kd.V_afterv (ok := (fun k_ => ((P0_2_ k_ ∨ P1_1_ k_) ∨ w.heap.size ≤ k_) ∧ some k_ ≠ (v133 : Value).ownBlock ∧ k_ ≠ gb101 ∧ k_ ≠ gb102)) (by (with_reducible repeat (first | apply Kd.V_alloc | apply Kd.V_drewN | apply Kd.V_drew)); exact Kd.V_mono HO_102002.out (fun _ hk => ⟨⟨hk.1.1.1, ⟨hk.2, ⟨hk.1.1.2.2.1, hk.1.1.2.2.2⟩⟩⟩, hk.1.2⟩)) hg hat)
                 have n1_ := Aside0.mk (Kd.V_afterv (ok := (fun k_ => ((P0_2_ k_ ∨ P1_1_ k_) ∨ w.heap.size ≤ k_) ∧ some k_ ≠ (v133 : Value).ownBlock ∧ k_ ≠ gb101 ∧ k_ ≠ gb102)) (by (with_reducible repeat (first | apply Kd.V_alloc | apply Kd.V_drewN | apply Kd.V_drew)); exact Kd.V_mono HO_103001.out (fun _ hk => ⟨⟨hk.1.1.1, ⟨hk.2, ⟨hk.1.1.2.2.1, hk.1.1.2.2.2⟩⟩⟩, hk.1.2⟩)) hg hat)
                 have n2_ := Aside0.mk (blk_grown (g := gb101) (o := .cells #[.string a0_0, .slice A0_1 l0_1.length c0_1, .slice A0_2 l0_2.length c0_2] 27 (0, 0)) (by (with_reducible repeat (first | refine blk_drewN ?_ _ | refine blk_drew ?_ | refine blk_alloc ?_ _)); exact BK101.out) hg (Kd.N_ne HO128.out BK101.out (by decide)))
                 have n3_ := Aside0.mk (blk_grown (g := gb102) (o := .cells #[.string a1_0, .slice A1_1 l1_1.length c1_1] 24 (0, 0)) (by (with_reducible repeat (first | refine blk_drewN ?_ _ | refine blk_drew ?_ | refine blk_alloc ?_ _)); exact BK102.out) hg (Kd.N_ne HO128.out BK102.out (by decide)))
                 have n4_ := Aside0.mk (Kd.N_afterv (ok := (fun k_ => ((P0_2_ k_ ∨ P1_1_ k_) ∨ w.heap.size ≤ k_) ∧ k_ ≠ gb101 ∧ k_ ≠ gb102)) (by (with_reducible repeat (first | apply Kd.N_alloc | apply Kd.N_drewN | apply Kd.N_drew)); exact Kd.N_mono HO134.out (fun _ hk => ⟨⟨hk.1, ⟨hk.2.2.1, hk.2.2.2⟩⟩, hk.2.1⟩)) hg hat)
                 have n5_ := Aside0.mk (hb)
                 have n6_ := Aside0.mk (ho)
                 clear HO_102002
                 clear HO_103001
                 clear BK101
                 clear BK102
                 clear HO134
                 clear HB
                 clear HO128
                 have HO_102002 := n0_
                 have HO_103001 := n1_
                 have BK101 := n2_
                 have BK102 := n3_
                 have HO134 := n4_
                 have HB := n5_
                 have HO131 := n6_
                 clear n0_ n1_ n2_ n3_ n4_ n5_ n6_
                 clear ho hb hg hat
                 refine hK.out _ _ ⟨(blk_cell BK101.out 0).trans rfl, (blk_cell BK101.out 1).trans rfl, (blk_cell BK101.out 2).trans rfl⟩ (fun hHeld => ?_)
                 clear hK K
                 refine norm_ (a' := ?_) ?_ ?_
                 rotate_left
                 ·show Act.put _ (some 80) _ = _
                  simp only [Act.put, List.setIfInBounds_toArray, List.set_cons_zero, List.set_cons_succ, i64_w, i32_w]
                  rfl
                 exact norm_ (by simp only [putAll, Act.put, List.setIfInBounds_toArray, List.set_cons_zero, List.set_cons_succ]) (hCont (v127, v130, v133) _ ⟨hHeld, (by (with_reducible repeat (first | apply Kd.N_alloc | apply Kd.N_drewN | apply Kd.N_drew)); exact HO131.out), (by (with_reducible repeat (first | apply Kd.N_alloc | apply Kd.N_drewN | apply Kd.N_drew)); exact Kd.N_mono HO134.out (fun _ hk => ⟨hk.1.1, ⟨hk.2, ⟨hk.1.2.1, hk.1.2.2⟩⟩⟩)), (by (with_reducible repeat (first | apply Kd.V_alloc | apply Kd.V_drewN | apply Kd.V_drew)); exact Kd.V_mono HO_102002.out (fun _ hk => ⟨hk.1.1, ⟨hk.2, ⟨hk.1.2.1, ⟨hk.1.2.2.1, hk.1.2.2.2⟩⟩⟩⟩)), (by (with_reducible repeat (first | apply Kd.V_alloc | apply Kd.V_drewN | apply Kd.V_drew)); exact Kd.V_mono HO_103001.out (fun _ hk => ⟨hk.1.1, ⟨hk.2, ⟨hk.1.2.1, ⟨hk.1.2.2.1, hk.1.2.2.2⟩⟩⟩⟩)), (by (with_reducible repeat (first | refine blk_drewN ?_ _ | refine blk_drew ?_ | refine blk_alloc ?_ _)); exact BK101.out), (by (with_reducible repeat (first | refine blk_drewN ?_ _ | refine blk_drew ?_ | refine blk_alloc ?_ _)); exact BK102.out), (by repeat (first | (with_reducible first | exact HB.out | apply below_alloc | apply pw_below_drewN | apply below_drew1 | refine below_set ?_ GE101.out | refine below_set ?_ GE102.out) | exact HB.out))⟩)
               ·skip
                refine Kd.N_lit_step k47 _ 47 ?hg (N' := 84) ?hd (xs := ([(⟨1, (⟨(⟨#[97, 108, 108]⟩ : ByteArray), x6_3⟩ : Atom), (⟨#[]⟩ : ByteArray), (⟨false, (⟨#[]⟩ : ByteArray), (⟨false, (⟨#[]⟩ : ByteArray), 0⟩ : Val)⟩ : Term), (⟨false, (⟨#[]⟩ : ByteArray), (⟨false, (⟨#[]⟩ : ByteArray), 0⟩ : Val)⟩ : Term)⟩ : Liter)] : List (Liter))) (inner := [.int .i64 1, .string (⟨#[97, 108, 108]⟩ : ByteArray), .slice Ao51 x6_3.length co51, .string (⟨#[]⟩ : ByteArray), .bool false, .string (⟨#[]⟩ : ByteArray), .bool false, .string (⟨#[]⟩ : ByteArray), .int .i64 0, .bool false, .string (⟨#[]⟩ : ByteArray), .bool false, .string (⟨#[]⟩ : ByteArray), .int .i64 0]) (ok := (fun k_ => ((P0_2_ k_ ∨ P1_1_ k_) ∨ w.heap.size ≤ k_) ∧ k_ ≠ gb101 ∧ k_ ≠ gb102)) (okp := (fun k_ => ((P0_2_ k_ ∨ P1_1_ k_) ∨ w.heap.size ≤ k_) ∧ k_ ≠ gb101 ∧ k_ ≠ gb102)) ?hr ?hp (fun _ hk => hk) ((show ∀ k_, w50.heap.size ≤ k_ → (fun k_ => ((P0_2_ k_ ∨ P1_1_ k_) ∨ w.heap.size ≤ k_) ∧ k_ ≠ gb101 ∧ k_ ≠ gb102) k_ from fun k_ hk => ⟨(.inr (Nat.le_trans (below_size (by repeat (first | (with_reducible first | exact HB.out | apply below_alloc | apply pw_below_drewN | apply below_drew1 | refine below_set ?_ GE101.out | refine below_set ?_ GE102.out) | exact HB.out))) hk)), Kd.freshB (g := gb101) (o := .cells #[.string a0_0, .slice A0_1 l0_1.length c0_1, .slice A0_2 l0_2.length c0_2] 27 (0, 0)) (by (with_reducible repeat (first | refine blk_drewN ?_ _ | refine blk_drew ?_ | refine blk_alloc ?_ _)); exact BK101.out) k_ hk, Kd.freshB (g := gb102) (o := .cells #[.string a1_0, .slice A1_1 l1_1.length c1_1] 24 (0, 0)) (by (with_reducible repeat (first | refine blk_drewN ?_ _ | refine blk_drew ?_ | refine blk_alloc ?_ _)); exact BK102.out) k_ hk⟩) _ (Nat.le_refl _)) (Below.refl _ _) (Nat.le_refl _) (by simp) ?_; (case hd => rfl); (case hg => rfl); (case hr => first | (go_simp; done) | (go_simp; rfl)); (case hp => exact (Reps.front (show Kd.FK k47 _ _ (⟨1, (⟨(⟨#[97, 108, 108]⟩ : ByteArray), x6_3⟩ : Atom), (⟨#[]⟩ : ByteArray), (⟨false, (⟨#[]⟩ : ByteArray), (⟨false, (⟨#[]⟩ : ByteArray), 0⟩ : Val)⟩ : Term), (⟨false, (⟨#[]⟩ : ByteArray), (⟨false, (⟨#[]⟩ : ByteArray), 0⟩ : Val)⟩ : Term)⟩ : Liter) [.int .i64 1, .string (⟨#[97, 108, 108]⟩ : ByteArray), .slice Ao51 x6_3.length co51, .string (⟨#[]⟩ : ByteArray), .bool false, .string (⟨#[]⟩ : ByteArray), .bool false, .string (⟨#[]⟩ : ByteArray), .int .i64 0, .bool false, .string (⟨#[]⟩ : ByteArray), .bool false, .string (⟨#[]⟩ : ByteArray), .int .i64 0] from (k47_mkF _ _ (⟨1, (⟨(⟨#[97, 108, 108]⟩ : ByteArray), x6_3⟩ : Atom), (⟨#[]⟩ : ByteArray), (⟨false, (⟨#[]⟩ : ByteArray), (⟨false, (⟨#[]⟩ : ByteArray), 0⟩ : Val)⟩ : Term), (⟨false, (⟨#[]⟩ : ByteArray), (⟨false, (⟨#[]⟩ : ByteArray), 0⟩ : Val)⟩ : Term)⟩ : Liter) (Kd.R_reads' (Kd.R_mono (ok' := (fun k_ => ((P0_2_ k_ ∨ P1_1_ k_) ∨ w.heap.size ≤ k_) ∧ k_ ≠ gb101 ∧ k_ ≠ gb102)) (Kd.R_types (Kd.R_types (HO_6.out) BK101.out (by decide)) BK102.out (by decide)) (fun k_ hk => ⟨(.inr (hk.1.1)), ⟨hk.1.2, hk.2⟩⟩))).2.1 (Kd.R_F (Kd.R_mono (ok' := (fun k_ => ((P0_2_ k_ ∨ P1_1_ k_) ∨ w.heap.size ≤ k_) ∧ k_ ≠ gb101 ∧ k_ ≠ gb102)) (Kd.R_types (Kd.R_types (HO_6.out) BK101.out (by decide)) BK102.out (by decide)) (fun k_ hk => ⟨(.inr (hk.1.1)), ⟨hk.1.2, hk.2⟩⟩))))) rfl (Reps.none _ _) rfl))
                intro v133 w52 ho53 hb hg_ hnew_
                clear hg_ hnew_
                (first | rw [← Ny132.out] at ho53 | (simp only [Int.reduceToNat] at ho53; rw [← Ny132.out] at ho53))
                have n0_ := Aside0.mk (Kd.V_elder' (by (with_reducible repeat (first | apply Kd.V_alloc | apply Kd.V_drewN | apply Kd.V_drew)); exact HO_102002.out) (Kd.N_base ho53) hb)
                have n1_ := Aside0.mk (Kd.V_elder' (by (with_reducible repeat (first | apply Kd.V_alloc | apply Kd.V_drewN | apply Kd.V_drew)); exact HO_103001.out) (Kd.N_base ho53) hb)
                have n2_ := Aside0.mk (Kd.N_lower ho53 (below_size (by repeat (first | (with_reducible first | exact HB.out | apply below_alloc | apply pw_below_drewN | apply below_drew1 | refine below_set ?_ GE101.out | refine below_set ?_ GE102.out) | exact HB.out))))
                have n3_ := Aside0.mk (blk_below (g := gb101) (o := .cells #[.string a0_0, .slice A0_1 l0_1.length c0_1, .slice A0_2 l0_2.length c0_2] 27 (0, 0)) (by (with_reducible repeat (first | refine blk_drewN ?_ _ | refine blk_drew ?_ | refine blk_alloc ?_ _)); exact BK101.out) hb)
                have n4_ := Aside0.mk (blk_below (g := gb102) (o := .cells #[.string a1_0, .slice A1_1 l1_1.length c1_1] 24 (0, 0)) (by (with_reducible repeat (first | refine blk_drewN ?_ _ | refine blk_drew ?_ | refine blk_alloc ?_ _)); exact BK102.out) hb)
                have n5_ := Aside0.mk (below_step (by repeat (first | (with_reducible first | exact HB.out | apply below_alloc | apply pw_below_drewN | apply below_drew1 | refine below_set ?_ GE101.out | refine below_set ?_ GE102.out) | exact HB.out)) hb)
                clear HO_102002
                clear HO_103001
                clear BK101
                clear BK102
                clear HB
                clear HO_6
                have HO_102002 := n0_
                have HO_103001 := n1_
                have HO134 := n2_
                have BK101 := n3_
                have BK102 := n4_
                have HB := n5_
                clear n0_ n1_ n2_ n3_ n4_ n5_
                clear hb ho53
                refine hK.out _ _ ⟨(blk_cell BK101.out 0).trans rfl, (blk_cell BK101.out 1).trans rfl, (blk_cell BK101.out 2).trans rfl⟩ (fun hHeld => ?_)
                clear hK K
                refine norm_ (a' := ?_) ?_ ?_
                rotate_left
                ·show Act.put _ (some 84) _ = _
                 simp only [Act.put, List.setIfInBounds_toArray, List.set_cons_zero, List.set_cons_succ, i64_w, i32_w]
                 rfl
                refine one_ (i := 2) (N := some 77) #[tt,tt,tt,tt,tt,ff,tt,tt,tt,tt,ff,ff,ff,ff,ff,ff,ff,ff,ff,ff] rfl rfl (one_of HT_.out (by kernel_rfl)) (by decide) (fun K hK => ?_)
                refine Kd.N_lit_step k47 _ 47 ?hg (N' := 77) ?hd (xs := ([] : List (Liter))) (inner := []) (ok := (fun k_ => ((P0_2_ k_ ∨ P1_1_ k_) ∨ w.heap.size ≤ k_) ∧ some k_ ≠ (v133 : Value).ownBlock ∧ k_ ≠ gb101 ∧ k_ ≠ gb102)) (okp := (fun k_ => ((P0_2_ k_ ∨ P1_1_ k_) ∨ w.heap.size ≤ k_) ∧ some k_ ≠ (v133 : Value).ownBlock ∧ k_ ≠ gb101 ∧ k_ ≠ gb102)) ?hr ?hp (fun _ hk => hk) ((show ∀ k_, w52.heap.size ≤ k_ → (fun k_ => ((P0_2_ k_ ∨ P1_1_ k_) ∨ w.heap.size ≤ k_) ∧ some k_ ≠ (v133 : Value).ownBlock ∧ k_ ≠ gb101 ∧ k_ ≠ gb102) k_ from fun k_ hk => ⟨(.inr (Nat.le_trans (below_size (by repeat (first | (with_reducible first | exact HB.out | apply below_alloc | apply pw_below_drewN | apply below_drew1 | refine below_set ?_ GE101.out | refine below_set ?_ GE102.out) | exact HB.out))) hk)), Kd.fresh' (Kd.N_lt (by (with_reducible repeat (first | apply Kd.N_alloc | apply Kd.N_drewN | apply Kd.N_drew)); exact HO134.out)) k_ hk, Kd.freshB (g := gb101) (o := .cells #[.string a0_0, .slice A0_1 l0_1.length c0_1, .slice A0_2 l0_2.length c0_2] 27 (0, 0)) (by (with_reducible repeat (first | refine blk_drewN ?_ _ | refine blk_drew ?_ | refine blk_alloc ?_ _)); exact BK101.out) k_ hk, Kd.freshB (g := gb102) (o := .cells #[.string a1_0, .slice A1_1 l1_1.length c1_1] 24 (0, 0)) (by (with_reducible repeat (first | refine blk_drewN ?_ _ | refine blk_drew ?_ | refine blk_alloc ?_ _)); exact BK102.out) k_ hk⟩) _ (Nat.le_refl _)) (Below.refl _ _) (Nat.le_refl _) (by simp) ?_; (case hd => rfl); (case hg => rfl); (case hr => first | (go_simp; done) | (go_simp; rfl)); (case hp => exact (Reps.none _ _))
                intro v127 w54 ho55 hb hg_ hnew_
                clear hg_ hnew_
                (first | rw [← Ny126.out] at ho55 | (simp only [Int.reduceToNat] at ho55; rw [← Ny126.out] at ho55))
                have n0_ := Aside0.mk (Kd.V_elder' (by (with_reducible repeat (first | apply Kd.V_alloc | apply Kd.V_drewN | apply Kd.V_drew)); exact HO_102002.out) (Kd.N_base ho55) hb)
                have n1_ := Aside0.mk (Kd.V_elder' (by (with_reducible repeat (first | apply Kd.V_alloc | apply Kd.V_drewN | apply Kd.V_drew)); exact HO_103001.out) (Kd.N_base ho55) hb)
                have n2_ := Aside0.mk (Kd.N_elder' (by (with_reducible repeat (first | apply Kd.N_alloc | apply Kd.N_drewN | apply Kd.N_drew)); exact HO134.out) (Kd.N_base ho55) hb)
                have n3_ := Aside0.mk (Kd.N_lower ho55 (below_size (by repeat (first | (with_reducible first | exact HB.out | apply below_alloc | apply pw_below_drewN | apply below_drew1 | refine below_set ?_ GE101.out | refine below_set ?_ GE102.out) | exact HB.out))))
                have n4_ := Aside0.mk (blk_below (g := gb101) (o := .cells #[.string a0_0, .slice A0_1 l0_1.length c0_1, .slice A0_2 l0_2.length c0_2] 27 (0, 0)) (by (with_reducible repeat (first | refine blk_drewN ?_ _ | refine blk_drew ?_ | refine blk_alloc ?_ _)); exact BK101.out) hb)
                have n5_ := Aside0.mk (blk_below (g := gb102) (o := .cells #[.string a1_0, .slice A1_1 l1_1.length c1_1] 24 (0, 0)) (by (with_reducible repeat (first | refine blk_drewN ?_ _ | refine blk_drew ?_ | refine blk_alloc ?_ _)); exact BK102.out) hb)
                have n6_ := Aside0.mk (below_step (by repeat (first | (with_reducible first | exact HB.out | apply below_alloc | apply pw_below_drewN | apply below_drew1 | refine below_set ?_ GE101.out | refine below_set ?_ GE102.out) | exact HB.out)) hb)
                clear HO_102002
                clear HO_103001
                clear HO134
                clear BK101
                clear BK102
                clear HB
                have HO_102002 := n0_
                have HO_103001 := n1_
                have HO134 := n2_
                have HO128 := n3_
                have BK101 := n4_
                have BK102 := n5_
                have HB := n6_
                clear n0_ n1_ n2_ n3_ n4_ n5_ n6_
                clear hb ho55
                refine hK.out _ _ ⟨(blk_cell BK101.out 0).trans rfl, (blk_cell BK101.out 1).trans rfl, (blk_cell BK101.out 2).trans rfl⟩ (fun hHeld => ?_)
                clear hK K
                refine norm_ (a' := ?_) ?_ ?_
                rotate_left
                ·show Act.put _ (some 77) _ = _
                 simp only [Act.put, List.setIfInBounds_toArray, List.set_cons_zero, List.set_cons_succ, i64_w, i32_w]
                 rfl
                refine one_ (i := 5) (N := some 80) #[tt,tt,tt,tt,tt,tt,tt,tt,tt,tt,ff,ff,ff,ff,ff,ff,ff,ff,ff,ff] rfl rfl (one_of HT_.out (by kernel_rfl)) (by decide) (fun K hK => ?_)
                refine Kd.N_append_rows_step k47 (w0 := w) w.heap.size (by rfl) (.tmp 77) (.tmp 79) 25 47 (.agg #[(.int .i64 0), (.string ⟨#[]⟩), (.slice none 0 0), (.string ⟨#[]⟩), (.bool false), (.string ⟨#[]⟩), (.bool false), (.string ⟨#[]⟩), (.int .i64 0), (.bool false), (.string ⟨#[]⟩), (.bool false), (.string ⟨#[]⟩), (.int .i64 0)]) 176 rfl Try.underlying25 info47 rfl (by decide) (by omega) v127 y126 l0_2 _ _ _ (fun k_ => ((P0_2_ k_ ∨ P1_1_ k_) ∨ w.heap.size ≤ k_) ∧ some k_ ≠ (v133 : Value).ownBlock ∧ k_ ≠ gb101 ∧ k_ ≠ gb102) (fun k_ => ((fun k_ => ((P0_2_ k_ ∨ P1_1_ k_) ∨ w.heap.size ≤ k_) ∧ some k_ ≠ (v133 : Value).ownBlock ∧ k_ ≠ gb101 ∧ k_ ≠ gb102)) k_ ∧ some k_ ≠ (v127 : Value).ownBlock) rfl rfl ?aO ?aR (fun _ hk => hk) ?aF ?aB ?aS ?aL ?_
                (case aR => exact (by skip; exact Kd.V_F (Kd.V_mono (ok' := (fun k_ => ((fun k_ => ((P0_2_ k_ ∨ P1_1_ k_) ∨ w.heap.size ≤ k_) ∧ some k_ ≠ (v133 : Value).ownBlock ∧ k_ ≠ gb101 ∧ k_ ≠ gb102)) k_ ∧ some k_ ≠ (v127 : Value).ownBlock)) (HO_102002.out) (fun k_ hk => ⟨⟨hk.1.1.1, ⟨hk.1.2, ⟨hk.1.1.2.2.1, hk.1.1.2.2.2⟩⟩⟩, hk.2⟩))))
                (case aB => exact (by repeat (first | (with_reducible first | exact HB.out | apply below_alloc | apply pw_below_drewN | apply below_drew1 | refine below_set ?_ GE101.out | refine below_set ?_ GE102.out) | exact HB.out)))
                (case aF => exact (fun k_ hk => ⟨(.inr (Nat.le_trans (below_size (by repeat (first | (with_reducible first | exact HB.out | apply below_alloc | apply pw_below_drewN | apply below_drew1 | refine below_set ?_ GE101.out | refine below_set ?_ GE102.out) | exact HB.out))) hk)), Kd.fresh' (Kd.N_lt (by (with_reducible repeat (first | apply Kd.N_alloc | apply Kd.N_drewN | apply Kd.N_drew)); exact HO134.out)) k_ hk, Kd.freshB (g := gb101) (o := .cells #[.string a0_0, .slice A0_1 l0_1.length c0_1, .slice A0_2 l0_2.length c0_2] 27 (0, 0)) (by (with_reducible repeat (first | refine blk_drewN ?_ _ | refine blk_drew ?_ | refine blk_alloc ?_ _)); exact BK101.out) k_ hk, Kd.freshB (g := gb102) (o := .cells #[.string a1_0, .slice A1_1 l1_1.length c1_1] 24 (0, 0)) (by (with_reducible repeat (first | refine blk_drewN ?_ _ | refine blk_drew ?_ | refine blk_alloc ?_ _)); exact BK102.out) k_ hk⟩))
                (case aO => exact (by (with_reducible repeat (first | apply Kd.N_alloc | apply Kd.N_drewN | apply Kd.N_drew)); exact HO128.out))
                (case aS => exact (below_size (by repeat (first | (with_reducible first | exact HB.out | apply below_alloc | apply pw_below_drewN | apply below_drew1 | refine below_set ?_ GE101.out | refine below_set ?_ GE102.out) | exact HB.out))))
                (case aL => have := LMc39.out; omega)
                intro v130 w56 ho hb hg hat
                rw [← Ny129.out] at ho
                have n0_ := Aside0.mk (Kd.V_afterv (ok := (fun k_ => ((P0_2_ k_ ∨ P1_1_ k_) ∨ w.heap.size ≤ k_) ∧ some k_ ≠ (v133 : Value).ownBlock ∧ k_ ≠ gb101 ∧ k_ ≠ gb102)) (by (with_reducible repeat (first | apply Kd.V_alloc | apply Kd.V_drewN | apply Kd.V_drew)); exact Kd.V_mono HO_102002.out (fun _ hk => ⟨⟨hk.1.1.1, ⟨hk.1.2, ⟨hk.1.1.2.2.1, hk.1.1.2.2.2⟩⟩⟩, hk.2⟩)) hg hat)
                have n1_ := Aside0.mk (Kd.V_afterv (ok := (fun k_ => ((P0_2_ k_ ∨ P1_1_ k_) ∨ w.heap.size ≤ k_) ∧ some k_ ≠ (v133 : Value).ownBlock ∧ k_ ≠ gb101 ∧ k_ ≠ gb102)) (by (with_reducible repeat (first | apply Kd.V_alloc | apply Kd.V_drewN | apply Kd.V_drew)); exact Kd.V_mono HO_103001.out (fun _ hk => ⟨⟨hk.1.1.1, ⟨hk.1.2, ⟨hk.1.1.2.2.1, hk.1.1.2.2.2⟩⟩⟩, hk.2⟩)) hg hat)
                have n2_ := Aside0.mk (blk_grown (g := gb101) (o := .cells #[.string a0_0, .slice A0_1 l0_1.length c0_1, .slice A0_2 l0_2.length c0_2] 27 (0, 0)) (by (with_reducible repeat (first | refine blk_drewN ?_ _ | refine blk_drew ?_ | refine blk_alloc ?_ _)); exact BK101.out) hg (Kd.N_ne HO128.out BK101.out (by decide)))
                have n3_ := Aside0.mk (blk_grown (g := gb102) (o := .cells #[.string a1_0, .slice A1_1 l1_1.length c1_1] 24 (0, 0)) (by (with_reducible repeat (first | refine blk_drewN ?_ _ | refine blk_drew ?_ | refine blk_alloc ?_ _)); exact BK102.out) hg (Kd.N_ne HO128.out BK102.out (by decide)))
                have n4_ := Aside0.mk (Kd.N_afterv (ok := (fun k_ => ((P0_2_ k_ ∨ P1_1_ k_) ∨ w.heap.size ≤ k_) ∧ k_ ≠ gb101 ∧ k_ ≠ gb102)) (by (with_reducible repeat (first | apply Kd.N_alloc | apply Kd.N_drewN | apply Kd.N_drew)); exact HO134.out) hg hat)
                have n5_ := Aside0.mk (hb)
                have n6_ := Aside0.mk (ho)
                clear HO_102002
                clear HO_103001
                clear BK101
                clear BK102
                clear HO134
                clear HB
                clear HO128
                have HO_102002 := n0_
                have HO_103001 := n1_
                have BK101 := n2_
                have BK102 := n3_
                have HO134 := n4_
                have HB := n5_
                have HO131 := n6_
                clear n0_ n1_ n2_ n3_ n4_ n5_ n6_
                clear ho hb hg hat
                refine hK.out _ _ ⟨(blk_cell BK101.out 0).trans rfl, (blk_cell BK101.out 1).trans rfl, (blk_cell BK101.out 2).trans rfl⟩ (fun hHeld => ?_)
                clear hK K
                refine norm_ (a' := ?_) ?_ ?_
                rotate_left
                ·show Act.put _ (some 80) _ = _
                 simp only [Act.put, List.setIfInBounds_toArray, List.set_cons_zero, List.set_cons_succ, i64_w, i32_w]
                 rfl
                exact norm_ (by simp only [putAll, Act.put, List.setIfInBounds_toArray, List.set_cons_zero, List.set_cons_succ]) (hCont (v127, v130, v133) _ ⟨hHeld, (by (with_reducible repeat (first | apply Kd.N_alloc | apply Kd.N_drewN | apply Kd.N_drew)); exact HO131.out), (by (with_reducible repeat (first | apply Kd.N_alloc | apply Kd.N_drewN | apply Kd.N_drew)); exact Kd.N_mono HO134.out (fun _ hk => ⟨hk.1.1, ⟨hk.2, ⟨hk.1.2.1, hk.1.2.2⟩⟩⟩)), (by (with_reducible repeat (first | apply Kd.V_alloc | apply Kd.V_drewN | apply Kd.V_drew)); exact Kd.V_mono HO_102002.out (fun _ hk => ⟨hk.1.1, ⟨hk.2, ⟨hk.1.2.1, ⟨hk.1.2.2.1, hk.1.2.2.2⟩⟩⟩⟩)), (by (with_reducible repeat (first | apply Kd.V_alloc | apply Kd.V_drewN | apply Kd.V_drew)); exact Kd.V_mono HO_103001.out (fun _ hk => ⟨hk.1.1, ⟨hk.2, ⟨hk.1.2.1, ⟨hk.1.2.2.1, hk.1.2.2.2⟩⟩⟩⟩)), (by (with_reducible repeat (first | refine blk_drewN ?_ _ | refine blk_drew ?_ | refine blk_alloc ?_ _)); exact BK101.out), (by (with_reducible repeat (first | refine blk_drewN ?_ _ | refine blk_drew ?_ | refine blk_alloc ?_ _)); exact BK102.out), (by repeat (first | (with_reducible first | exact HB.out | apply below_alloc | apply pw_below_drewN | apply below_drew1 | refine below_set ?_ GE101.out | refine below_set ?_ GE102.out) | exact HB.out))⟩)
              rintro ⟨v127, v130, v133⟩ w57 ⟨hS_, h0_, h1_, h2_, h3_, h4_, h5_, h6_⟩
              have n0_ : Aside0 (Kd.N k47 47 w57 w.heap.size (fun k_ => ((P0_2_ k_ ∨ P1_1_ k_) ∨ w.heap.size ≤ k_) ∧ some k_ ≠ (v133 : Value).ownBlock ∧ k_ ≠ gb101 ∧ k_ ≠ gb102) v130 y129) := ⟨h0_⟩
              have n1_ : Aside0 (Kd.N k47 47 w57 w.heap.size (fun k_ => ((P0_2_ k_ ∨ P1_1_ k_) ∨ w.heap.size ≤ k_) ∧ some k_ ≠ (v130 : Value).ownBlock ∧ k_ ≠ gb101 ∧ k_ ≠ gb102) v133 y132) := ⟨h1_⟩
              have n2_ : Aside0 (Kd.V k47 47 w57 w.heap.size (fun k_ => ((P0_2_ k_ ∨ P1_1_ k_) ∨ w.heap.size ≤ k_) ∧ some k_ ≠ (v130 : Value).ownBlock ∧ some k_ ≠ (v133 : Value).ownBlock ∧ k_ ≠ gb101 ∧ k_ ≠ gb102) (.slice A0_2 l0_2.length c0_2) l0_2) := ⟨h2_⟩
              have n3_ : Aside0 (Kd.V k45 45 w57 w.heap.size (fun k_ => ((P0_2_ k_ ∨ P1_1_ k_) ∨ w.heap.size ≤ k_) ∧ some k_ ≠ (v130 : Value).ownBlock ∧ some k_ ≠ (v133 : Value).ownBlock ∧ k_ ≠ gb101 ∧ k_ ≠ gb102) (.slice A1_1 l1_1.length c1_1) l1_1) := ⟨h3_⟩
              have n4_ : Aside0 (w57.heap[gb101]? = some (.cells #[.string a0_0, .slice A0_1 l0_1.length c0_1, .slice A0_2 l0_2.length c0_2] 27 (0, 0))) := ⟨h4_⟩
              have n5_ : Aside0 (w57.heap[gb102]? = some (.cells #[.string a1_0, .slice A1_1 l1_1.length c1_1] 24 (0, 0))) := ⟨h5_⟩
              have n6_ : Aside0 (Below w.heap.size w w57) := ⟨h6_⟩
              clear HO_6
              clear HO_102002
              clear HO_103001
              clear BK101
              clear BK102
              clear HB
              clear h0_ h1_ h2_ h3_ h4_ h5_ h6_
              have HO131 := n0_
              have HO134 := n1_
              have HO_102002 := n2_
              have HO_103001 := n3_
              have BK101 := n4_
              have BK102 := n5_
              have HB := n6_
              clear n0_ n1_ n2_ n3_ n4_ n5_ n6_
              have hHeld : w57.cell? ⟨gb101, 0, none⟩ = some (.string a0_0) ∧ w57.cell? ⟨gb101, 1, none⟩ = some (.slice A0_1 l0_1.length c0_1) ∧ w57.cell? ⟨gb101, 2, none⟩ = some (.slice A0_2 l0_2.length c0_2) := hS_
              obtain ⟨Ao59, co59, eo59⟩ := Kd.N_slice HO134.out
              (first | subst eo59 | (injection eo59 with f1_ f2_ f3_; have f4_ := f1_.symm; have f5_ := f3_.symm; clear f1_ f2_ f3_; subst f4_; subst f5_))
              refine norm_ (a' := ?_) ?_ ?_
              rotate_left
              ·simp only [putAll, Act.put, List.setIfInBounds_toArray, List.set_cons_zero, List.set_cons_succ]
               rfl
              refine one_ (i := 10) (N := some 85) #[tt,tt,tt,tt,tt,tt,tt,tt,tt,tt,tt,ff,ff,ff,ff,ff,ff,ff,ff,ff] rfl rfl (one_of HT_.out (by kernel_rfl)) (by decide) (fun K hK => ?_)
              refine Kd.N_append_rows_step k47 (w0 := w) w.heap.size (by rfl) (.tmp 80) (.tmp 84) 25 47 (.agg #[(.int .i64 0), (.string ⟨#[]⟩), (.slice none 0 0), (.string ⟨#[]⟩), (.bool false), (.string ⟨#[]⟩), (.bool false), (.string ⟨#[]⟩), (.int .i64 0), (.bool false), (.string ⟨#[]⟩), (.bool false), (.string ⟨#[]⟩), (.int .i64 0)]) 176 rfl Try.underlying25 info47 rfl (by decide) (by omega) v130 y129 y132 _ _ _ (fun k_ => ((P0_2_ k_ ∨ P1_1_ k_) ∨ w.heap.size ≤ k_) ∧ k_ ≠ gb101 ∧ k_ ≠ gb102) (fun k_ => ((fun k_ => ((P0_2_ k_ ∨ P1_1_ k_) ∨ w.heap.size ≤ k_) ∧ k_ ≠ gb101 ∧ k_ ≠ gb102)) k_ ∧ some k_ ≠ (v130 : Value).ownBlock) rfl rfl ?aO ?aR (fun _ hk => hk) ?aF ?aB ?aS ?aL ?_
              (case aR => exact (by skip; exact Kd.N_F (Kd.N_mono (ok' := (fun k_ => ((fun k_ => ((P0_2_ k_ ∨ P1_1_ k_) ∨ w.heap.size ≤ k_) ∧ k_ ≠ gb101 ∧ k_ ≠ gb102)) k_ ∧ some k_ ≠ (v130 : Value).ownBlock)) (HO134.out) (fun k_ hk => ⟨⟨hk.1, ⟨hk.2.2.1, hk.2.2.2⟩⟩, hk.2.1⟩))))
              (case aB => exact (by repeat (first | (with_reducible first | exact HB.out | apply below_alloc | apply pw_below_drewN | apply below_drew1 | refine below_set ?_ GE101.out | refine below_set ?_ GE102.out) | exact HB.out)))
              (case aF => exact (fun k_ hk => ⟨(.inr (Nat.le_trans (below_size (by repeat (first | (with_reducible first | exact HB.out | apply below_alloc | apply pw_below_drewN | apply below_drew1 | refine below_set ?_ GE101.out | refine below_set ?_ GE102.out) | exact HB.out))) hk)), Kd.freshB (g := gb101) (o := .cells #[.string a0_0, .slice A0_1 l0_1.length c0_1, .slice A0_2 l0_2.length c0_2] 27 (0, 0)) (by (with_reducible repeat (first | refine blk_drewN ?_ _ | refine blk_drew ?_ | refine blk_alloc ?_ _)); exact BK101.out) k_ hk, Kd.freshB (g := gb102) (o := .cells #[.string a1_0, .slice A1_1 l1_1.length c1_1] 24 (0, 0)) (by (with_reducible repeat (first | refine blk_drewN ?_ _ | refine blk_drew ?_ | refine blk_alloc ?_ _)); exact BK102.out) k_ hk⟩))
              (case aO => exact (by (with_reducible repeat (first | apply Kd.N_alloc | apply Kd.N_drewN | apply Kd.N_drew)); exact Kd.N_mono HO131.out (fun _ hk => ⟨hk.1, ⟨hk.2.2.1, hk.2.2.2⟩⟩)))
              (case aS => exact (below_size (by repeat (first | (with_reducible first | exact HB.out | apply below_alloc | apply pw_below_drewN | apply below_drew1 | refine below_set ?_ GE101.out | refine below_set ?_ GE102.out) | exact HB.out))))
              (case aL => have := LMc40.out; omega)
              intro v136 w58 ho hb hg hat
              rw [← Ny135.out] at ho
              have n0_ := Aside0.mk (Kd.V_afterv (ok := (fun k_ => ((P0_2_ k_ ∨ P1_1_ k_) ∨ w.heap.size ≤ k_) ∧ some k_ ≠ (.slice Ao59 y132.length co59 : Value).ownBlock ∧ k_ ≠ gb101 ∧ k_ ≠ gb102)) (by (with_reducible repeat (first | apply Kd.V_alloc | apply Kd.V_drewN | apply Kd.V_drew)); exact Kd.V_mono HO_102002.out (fun _ hk => ⟨⟨hk.1, ⟨hk.2.2.1, ⟨hk.2.2.2.1, hk.2.2.2.2⟩⟩⟩, hk.2.1⟩)) hg hat)
              have n1_ := Aside0.mk (Kd.V_afterv (ok := (fun k_ => ((P0_2_ k_ ∨ P1_1_ k_) ∨ w.heap.size ≤ k_) ∧ some k_ ≠ (.slice Ao59 y132.length co59 : Value).ownBlock ∧ k_ ≠ gb101 ∧ k_ ≠ gb102)) (by (with_reducible repeat (first | apply Kd.V_alloc | apply Kd.V_drewN | apply Kd.V_drew)); exact Kd.V_mono HO_103001.out (fun _ hk => ⟨⟨hk.1, ⟨hk.2.2.1, ⟨hk.2.2.2.1, hk.2.2.2.2⟩⟩⟩, hk.2.1⟩)) hg hat)
              have n2_ := Aside0.mk (blk_grown (g := gb101) (o := .cells #[.string a0_0, .slice A0_1 l0_1.length c0_1, .slice A0_2 l0_2.length c0_2] 27 (0, 0)) (by (with_reducible repeat (first | refine blk_drewN ?_ _ | refine blk_drew ?_ | refine blk_alloc ?_ _)); exact BK101.out) hg (Kd.N_ne HO131.out BK101.out (by decide)))
              have n3_ := Aside0.mk (blk_grown (g := gb102) (o := .cells #[.string a1_0, .slice A1_1 l1_1.length c1_1] 24 (0, 0)) (by (with_reducible repeat (first | refine blk_drewN ?_ _ | refine blk_drew ?_ | refine blk_alloc ?_ _)); exact BK102.out) hg (Kd.N_ne HO131.out BK102.out (by decide)))
              have n4_ := Aside0.mk (Kd.N_afterv (ok := (fun k_ => ((P0_2_ k_ ∨ P1_1_ k_) ∨ w.heap.size ≤ k_) ∧ k_ ≠ gb101 ∧ k_ ≠ gb102)) (by (with_reducible repeat (first | apply Kd.N_alloc | apply Kd.N_drewN | apply Kd.N_drew)); exact Kd.N_mono HO134.out (fun _ hk => ⟨⟨hk.1, ⟨hk.2.2.1, hk.2.2.2⟩⟩, hk.2.1⟩)) hg hat)
              have n5_ := Aside0.mk (hb)
              have n6_ := Aside0.mk (ho)
              clear HO_102002
              clear HO_103001
              clear BK101
              clear BK102
              clear HO134
              clear HB
              clear HO131
              have HO_102002 := n0_
              have HO_103001 := n1_
              have BK101 := n2_
              have BK102 := n3_
              have HO134 := n4_
              have HB := n5_
              have HO137 := n6_
              clear n0_ n1_ n2_ n3_ n4_ n5_ n6_
              clear ho hb hg hat
              obtain ⟨Ao60, co60, eo60⟩ := Kd.N_slice HO137.out
              (first | subst eo60 | (injection eo60 with f1_ f2_ f3_; have f4_ := f1_.symm; have f5_ := f3_.symm; clear f1_ f2_ f3_; subst f4_; subst f5_))
              refine hK.out _ _ ⟨(blk_cell BK101.out 0).trans rfl, (blk_cell BK101.out 1).trans rfl, (blk_cell BK101.out 2).trans rfl⟩ (fun hHeld => ?_)
              clear hK K
              refine norm_ (a' := ?_) ?_ ?_
              rotate_left
              ·show Act.put _ (some 85) _ = _
               simp only [Act.put, List.setIfInBounds_toArray, List.set_cons_zero, List.set_cons_succ, i64_w, i32_w]
               rfl
              refine pure_ (i := 11) (N := some 86) (v := ?_) (a' := ?_) #[tt,tt,tt,tt,tt,tt,tt,tt,tt,tt,tt,tt,ff,ff,ff,ff,ff,ff,ff,ff] rfl rfl (any_of HT_.out (by kernel_rfl)) (fun _ _ _ h => h) (Or.inl ⟨by rfl, ?_⟩) ?_ ?_
              rotate_left
              ·intro w'
               go_simp
               with_reducible rfl
              rotate_left
              ·simp only [Act.put, List.setIfInBounds_toArray, List.set_cons_zero, List.set_cons_succ, i64_w, i32_w]
               rfl
              refine one_ (i := 12) (N := some 87) #[tt,tt,tt,tt,tt,tt,tt,tt,tt,tt,tt,tt,tt,ff,ff,ff,ff,ff,ff,ff] rfl rfl (one_of HT_.out (by kernel_rfl)) (by decide) (fun K hK => ?_)
              refine goes_ Try.func28 (by kernel_rfl) rfl #[.agg #[.string a0_0, .slice A0_1 l0_1.length c0_1, .slice Ao60 y135.length co60]] (by rfl) rfl rfl (by (try simp only [List.map_toArray, List.map_cons, List.map_nil]); first | done | rfl | (simp only [List.length_drop, List.length_take]; rfl)) ?_
              with_reducible refine (safe_Check.calls k3 a0_0 _ _ l0_1 _ _ y135 t138 t139 t140 _ ?side1 ?side2 ?side3 ?side4 A41.out).mono ?_
              (case side1 => repeat (first | exact (Kd.C_below HR0_1.out HB.out) | (with_reducible refine Kd.C_alloc ?_ _) | (with_reducible refine Kd.C_drewN ?_ _) | (with_reducible refine Kd.C_drew ?_)))
              (case side2 => exact HC0_1.out)
              (case side3 => repeat (first | exact (Kd.N_reads' HO137.out).2.2 | (with_reducible refine Kd.C_alloc ?_ _) | (with_reducible refine Kd.C_drewN ?_ _) | (with_reducible refine Kd.C_drew ?_)))
              (case side4 => exact (Kd.N_reads' HO137.out).2.1)
              rintro e w61 ⟨rfl, hb⟩
              refine ⟨_, rfl, ?_⟩
              have n0_ := Aside0.mk (Kd.V_below (by (with_reducible repeat (first | apply Kd.V_alloc | apply Kd.V_drewN | apply Kd.V_drew)); exact HO_102002.out) hb)
              have n1_ := Aside0.mk (Kd.V_below (by (with_reducible repeat (first | apply Kd.V_alloc | apply Kd.V_drewN | apply Kd.V_drew)); exact HO_103001.out) hb)
              have n2_ := Aside0.mk (Kd.N_below (by (with_reducible repeat (first | apply Kd.N_alloc | apply Kd.N_drewN | apply Kd.N_drew)); exact HO134.out) hb)
              have n3_ := Aside0.mk (Kd.N_below (by (with_reducible repeat (first | apply Kd.N_alloc | apply Kd.N_drewN | apply Kd.N_drew)); exact HO137.out) hb)
              have n4_ := Aside0.mk (blk_below (g := gb101) (o := .cells #[.string a0_0, .slice A0_1 l0_1.length c0_1, .slice A0_2 l0_2.length c0_2] 27 (0, 0)) (by (with_reducible repeat (first | refine blk_drewN ?_ _ | refine blk_drew ?_ | refine blk_alloc ?_ _)); exact BK101.out) hb)
              have n5_ := Aside0.mk (blk_below (g := gb102) (o := .cells #[.string a1_0, .slice A1_1 l1_1.length c1_1] 24 (0, 0)) (by (with_reducible repeat (first | refine blk_drewN ?_ _ | refine blk_drew ?_ | refine blk_alloc ?_ _)); exact BK102.out) hb)
              have n6_ := Aside0.mk (below_step (by repeat (first | (with_reducible first | exact HB.out | apply below_alloc | apply pw_below_drewN | apply below_drew1 | refine below_set ?_ GE101.out | refine below_set ?_ GE102.out) | exact HB.out)) hb)
              clear HO_102002
              clear HO_103001
              clear HO134
              clear HO137
              clear BK101
              clear BK102
              clear HB
              have HO_102002 := n0_
              have HO_103001 := n1_
              have HO134 := n2_
              have HO137 := n3_
              have BK101 := n4_
              have BK102 := n5_
              have HB := n6_
              clear n0_ n1_ n2_ n3_ n4_ n5_ n6_
              (try clear hb)
              (try clear hb2)
              (try clear hk)
              (try clear hi)
              refine hK.out _ _ ⟨(blk_cell BK101.out 0).trans rfl, (blk_cell BK101.out 1).trans rfl, (blk_cell BK101.out 2).trans rfl⟩ (fun hHeld => ?_)
              clear hK K
              refine norm_ (a' := ?_) ?_ ?_
              rotate_left
              ·show Act.put _ (some 87) _ = _
               simp only [Act.put, List.setIfInBounds_toArray, List.set_cons_zero, List.set_cons_succ, i64_w, i32_w]
               rfl
              refine pure_ (i := 13) (N := some 74) (v := ?_) (a' := ?_) #[tt,tt,tt,tt,tt,tt,tt,tt,tt,tt,tt,tt,tt,tt,ff,ff,ff,ff,ff,ff] rfl rfl (any_of HT_.out (by kernel_rfl)) (fun _ _ _ h => h) (Or.inl ⟨by rfl, ?_⟩) ?_ ?_
              rotate_left
              ·intro w'
               go_simp
               with_reducible rfl
              rotate_left
              ·simp only [Act.put, List.setIfInBounds_toArray, List.set_cons_zero, List.set_cons_succ, i64_w, i32_w]
               rfl
              refine pure_ (i := 14) (N := some 88) (v := ?_) (a' := ?_) #[tt,tt,tt,tt,tt,tt,tt,tt,tt,tt,tt,tt,tt,tt,tt,ff,ff,ff,ff,ff] rfl rfl (any_of HT_.out (by kernel_rfl)) (fun _ _ _ h => h) (Or.inl ⟨by rfl, ?_⟩) ?_ ?_
              rotate_left
              ·intro w'
               go_simp
               with_reducible rfl
              rotate_left
              ·simp only [Act.put, List.setIfInBounds_toArray, List.set_cons_zero, List.set_cons_succ, i64_w, i32_w]
               rfl
              refine pure_ (i := 15) (N := some 89) (v := ?_) (a' := ?_) #[tt,tt,tt,tt,tt,tt,tt,tt,tt,tt,tt,tt,tt,tt,tt,tt,ff,ff,ff,ff] rfl rfl (any_of HT_.out (by kernel_rfl)) (fun _ _ _ h => h) (Or.inl ⟨by rfl, ?_⟩) ?_ ?_
              rotate_left
              ·intro w'
               go_simp
               with_reducible rfl
              rotate_left
              ·simp only [Act.put, List.setIfInBounds_toArray, List.set_cons_zero, List.set_cons_succ, i64_w, i32_w]
               rfl
              refine pure_ (i := 16) (N := some 90) (v := ?_) (a' := ?_) #[tt,tt,tt,tt,tt,tt,tt,tt,tt,tt,tt,tt,tt,tt,tt,tt,tt,ff,ff,ff] rfl rfl (any_of HT_.out (by kernel_rfl)) (fun _ _ _ h => h) (Or.inl ⟨by rfl, ?_⟩) ?_ ?_
              rotate_left
              ·intro w'
               go_simp
               with_reducible rfl
              rotate_left
              ·simp only [Act.put, List.setIfInBounds_toArray, List.set_cons_zero, List.set_cons_succ, i64_w, i32_w]
               rfl
              refine pure_ (i := 17) (N := some 11) (v := ?_) (a' := ?_) #[tt,tt,tt,tt,tt,tt,tt,tt,tt,tt,tt,tt,tt,tt,tt,tt,tt,tt,ff,ff] rfl rfl (any_of HT_.out (by kernel_rfl)) (fun _ _ _ h => h) (Or.inl ⟨by rfl, ?_⟩) ?_ ?_
              rotate_left
              ·intro w'
               go_simp
               with_reducible rfl
              rotate_left
              ·simp only [Act.put, List.setIfInBounds_toArray, List.set_cons_zero, List.set_cons_succ, i64_w, i32_w]
               rfl
              refine pure_ (i := 18) (N := some 12) (v := ?_) (a' := ?_) #[tt,tt,tt,tt,tt,tt,tt,tt,tt,tt,tt,tt,tt,tt,tt,tt,tt,tt,tt,ff] rfl rfl (any_of HT_.out (by kernel_rfl)) (fun _ _ _ h => h) (Or.inl ⟨by rfl, ?_⟩) ?_ ?_
              rotate_left
              ·intro w'
               go_simp
               with_reducible rfl
              rotate_left
              ·simp only [Act.put, List.setIfInBounds_toArray, List.set_cons_zero, List.set_cons_succ, i64_w, i32_w]
               rfl
              refine pure_ (i := 19) (N := some 13) (v := ?_) (a' := ?_) #[tt,tt,tt,tt,tt,tt,tt,tt,tt,tt,tt,tt,tt,tt,tt,tt,tt,tt,tt,tt] rfl rfl (any_of HT_.out (by kernel_rfl)) (fun _ _ _ h => h) (Or.inl ⟨by rfl, ?_⟩) ?_ ?_
              rotate_left
              ·intro w'
               go_simp
               with_reducible rfl
              rotate_left
              ·simp only [Act.put, List.setIfInBounds_toArray, List.set_cons_zero, List.set_cons_succ, i64_w, i32_w]
               rfl
              refine done_ (done_of HT_.out (by kernel_rfl)) ?_
              try go_wp2
              have n0_ := Aside0.mk (Kd.V_drew HO_102002.out)
              have n1_ := Aside0.mk (Kd.V_drew HO_103001.out)
              have n2_ := Aside0.mk (Kd.N_drew HO134.out)
              have n3_ := Aside0.mk (Kd.N_drew HO137.out)
              have n4_ := Aside0.mk (blk_drew BK101.out)
              have n5_ := Aside0.mk (blk_drew BK102.out)
              have n6_ := Aside0.mk (below_drew1 HB.out)
              clear HO_102002
              clear HO_103001
              clear HO134
              clear HO137
              clear BK101
              clear BK102
              clear HB
              have HO_102002 := n0_
              have HO_103001 := n1_
              have HO134 := n2_
              have HO137 := n3_
              have BK101 := n4_
              have BK102 := n5_
              have HB := n6_
              clear n0_ n1_ n2_ n3_ n4_ n5_ n6_
              refine start_ (n := 19) (S := fun w' => w'.cell? ⟨gb101, 0, none⟩ = some (.string a0_0) ∧ w'.cell? ⟨gb101, 1, none⟩ = some (.slice A0_1 l0_1.length c0_1) ∧ w'.cell? ⟨gb101, 2, none⟩ = some (.slice A0_2 l0_2.length c0_2) ∧ w'.cell? ⟨gb102, 0, none⟩ = some (.string a1_0) ∧ w'.cell? ⟨gb102, 1, none⟩ = some (.slice A1_1 l1_1.length c1_1)) (ds := []) #[ff,ff,ff,ff,ff,ff,ff,ff,ff,ff,ff,ff,ff,ff,ff,ff,ff,ff,ff] (by kernel_rfl) rfl rfl ⟨(blk_cell BK101.out 0).trans rfl, (blk_cell BK101.out 1).trans rfl, (blk_cell BK101.out 2).trans rfl, (blk_cell BK102.out 0).trans rfl, (blk_cell BK102.out 1).trans rfl⟩ (fun hHeld => ?_); refine with_tabW lambrequinlaw09_SafeBinds.tab12 lambrequinlaw09_SafeBinds.bits12 (fun HT_ HW_ => ?_)
              generalize w61.drew = w62 at HO_102002 HO_103001 HO134 HO137 BK101 BK102 HB hHeld ⊢
              refine pure_ (i := 0) (N := some 92) (v := ?_) (a' := ?_) #[tt,ff,ff,ff,ff,ff,ff,ff,ff,ff,ff,ff,ff,ff,ff,ff,ff,ff,ff] rfl rfl (any_of HT_.out (by kernel_rfl)) (fun _ _ _ h => h) (Or.inl ⟨by rfl, ?_⟩) ?_ ?_
              rotate_left
              ·intro w'
               go_simp
               with_reducible rfl
              rotate_left
              ·simp only [Act.put, List.setIfInBounds_toArray, List.set_cons_zero, List.set_cons_succ, i64_w, i32_w]
               rfl
              refine pure_ (i := 3) (N := some 95) (v := ?_) (a' := ?_) #[tt,ff,ff,tt,ff,ff,ff,ff,ff,ff,ff,ff,ff,ff,ff,ff,ff,ff,ff] rfl rfl (any_of HT_.out (by kernel_rfl)) (fun _ _ _ h => h) (Or.inl ⟨by rfl, ?_⟩) ?_ ?_
              rotate_left
              ·intro w'
               go_simp
               with_reducible rfl
              rotate_left
              ·simp only [Act.put, List.setIfInBounds_toArray, List.set_cons_zero, List.set_cons_succ, i64_w, i32_w]
               rfl
              refine take_ (i := 1) (N := some 93) (v := ?_) (a' := ?_) #[tt,tt,ff,tt,ff,ff,ff,ff,ff,ff,ff,ff,ff,ff,ff,ff,ff,ff,ff] rfl rfl (take_ofW HT_.out HW_.out (by kernel_rfl)) (fun _ _ _ h => h) (Or.inl ⟨by rfl, ?_⟩) hHeld ?_ ?_
              rotate_left
              ·rintro w' ⟨s0, s1, s2, s3, s4⟩
               go_simp
               with_reducible rfl
              rotate_left
              ·simp only [Act.put, List.setIfInBounds_toArray, List.set_cons_zero, List.set_cons_succ, i64_w, i32_w]
               rfl
              refine take_ (i := 4) (N := some 96) (v := ?_) (a' := ?_) #[tt,tt,ff,tt,tt,ff,ff,ff,ff,ff,ff,ff,ff,ff,ff,ff,ff,ff,ff] rfl rfl (take_ofW HT_.out HW_.out (by kernel_rfl)) (fun _ _ _ h => h) (Or.inl ⟨by rfl, ?_⟩) hHeld ?_ ?_
              rotate_left
              ·rintro w' ⟨s0, s1, s2, s3, s4⟩
               go_simp
               with_reducible rfl
              rotate_left
              ·simp only [Act.put, List.setIfInBounds_toArray, List.set_cons_zero, List.set_cons_succ, i64_w, i32_w]
               rfl
              refine take_ (i := 6) (N := some 98) (v := ?_) (a' := ?_) #[tt,tt,ff,tt,tt,ff,tt,ff,ff,ff,ff,ff,ff,ff,ff,ff,ff,ff,ff] rfl rfl (take_ofW HT_.out HW_.out (by kernel_rfl)) (fun _ _ _ h => h) (Or.inl ⟨by rfl, ?_⟩) hHeld ?_ ?_
              rotate_left
              ·rintro w' ⟨s0, s1, s2, s3, s4⟩
               go_simp
               with_reducible rfl
              rotate_left
              ·simp only [Act.put, List.setIfInBounds_toArray, List.set_cons_zero, List.set_cons_succ, i64_w, i32_w]
               rfl
              refine pure_ (i := 7) (N := some 99) (v := ?_) (a' := ?_) #[tt,tt,ff,tt,tt,ff,tt,tt,ff,ff,ff,ff,ff,ff,ff,ff,ff,ff,ff] rfl rfl (any_of HT_.out (by kernel_rfl)) (fun _ _ _ h => h) (Or.inl ⟨by rfl, ?_⟩) ?_ ?_
              rotate_left
              ·intro w'
               go_simp
               with_reducible rfl
              rotate_left
              ·simp only [Act.put, List.setIfInBounds_toArray, List.set_cons_zero, List.set_cons_succ, i64_w, i32_w]
               rfl
              refine join_ (σ := Value × Value × Value) 10 #[tt,tt,tt,tt,tt,tt,tt,tt,tt,ff,ff,ff,ff,ff,ff,ff,ff,ff,ff] (fun s_ => [(94, s_.1), (97, s_.2.1), (100, s_.2.2)]) (fun s_ w' => (w'.cell? ⟨gb101, 0, none⟩ = some (.string a0_0) ∧ w'.cell? ⟨gb101, 1, none⟩ = some (.slice A0_1 l0_1.length c0_1) ∧ w'.cell? ⟨gb101, 2, none⟩ = some (.slice A0_2 l0_2.length c0_2) ∧ w'.cell? ⟨gb102, 0, none⟩ = some (.string a1_0) ∧ w'.cell? ⟨gb102, 1, none⟩ = some (.slice A1_1 l1_1.length c1_1)) ∧ (Kd.N k47 47 w' w.heap.size (fun k_ => ((P0_2_ k_ ∨ P1_1_ k_) ∨ w.heap.size ≤ k_) ∧ some k_ ≠ (.slice Ao60 y135.length co60 : Value).ownBlock ∧ some k_ ≠ (s_.2.1 : Value).ownBlock ∧ some k_ ≠ (s_.2.2 : Value).ownBlock ∧ k_ ≠ gb101 ∧ k_ ≠ gb102) (.slice Ao59 y132.length co59) y132) ∧ (Kd.N k47 47 w' w.heap.size (fun k_ => ((P0_2_ k_ ∨ P1_1_ k_) ∨ w.heap.size ≤ k_) ∧ some k_ ≠ (s_.2.1 : Value).ownBlock ∧ some k_ ≠ (s_.2.2 : Value).ownBlock ∧ k_ ≠ gb101 ∧ k_ ≠ gb102) (.slice Ao60 y135.length co60) y135) ∧ (Kd.N k47 47 w' w.heap.size (fun k_ => ((P0_2_ k_ ∨ P1_1_ k_) ∨ w.heap.size ≤ k_) ∧ some k_ ≠ (.slice Ao59 y132.length co59 : Value).ownBlock ∧ some k_ ≠ (.slice Ao60 y135.length co60 : Value).ownBlock ∧ some k_ ≠ (s_.2.2 : Value).ownBlock ∧ k_ ≠ gb101 ∧ k_ ≠ gb102) s_.2.1 y144) ∧ (Kd.N k47 47 w' w.heap.size (fun k_ => ((P0_2_ k_ ∨ P1_1_ k_) ∨ w.heap.size ≤ k_) ∧ some k_ ≠ (.slice Ao59 y132.length co59 : Value).ownBlock ∧ some k_ ≠ (.slice Ao60 y135.length co60 : Value).ownBlock ∧ some k_ ≠ (s_.2.1 : Value).ownBlock ∧ k_ ≠ gb101 ∧ k_ ≠ gb102) s_.2.2 y147) ∧ (Kd.V k47 47 w' w.heap.size (fun k_ => ((P0_2_ k_ ∨ P1_1_ k_) ∨ w.heap.size ≤ k_) ∧ some k_ ≠ (.slice Ao59 y132.length co59 : Value).ownBlock ∧ some k_ ≠ (.slice Ao60 y135.length co60 : Value).ownBlock ∧ some k_ ≠ (s_.2.1 : Value).ownBlock ∧ some k_ ≠ (s_.2.2 : Value).ownBlock ∧ k_ ≠ gb101 ∧ k_ ≠ gb102) (.slice A0_2 l0_2.length c0_2) l0_2) ∧ (Kd.V k45 45 w' w.heap.size (fun k_ => ((P0_2_ k_ ∨ P1_1_ k_) ∨ w.heap.size ≤ k_) ∧ some k_ ≠ (.slice Ao59 y132.length co59 : Value).ownBlock ∧ some k_ ≠ (.slice Ao60 y135.length co60 : Value).ownBlock ∧ some k_ ≠ (s_.2.1 : Value).ownBlock ∧ some k_ ≠ (s_.2.2 : Value).ownBlock ∧ k_ ≠ gb101 ∧ k_ ≠ gb102) (.slice A1_1 l1_1.length c1_1) l1_1) ∧ (w'.heap[gb101]? = some (.cells #[.string a0_0, .slice A0_1 l0_1.length c0_1, .slice A0_2 l0_2.length c0_2] 27 (0, 0))) ∧ (w'.heap[gb102]? = some (.cells #[.string a1_0, .slice A1_1 l1_1.length c1_1] 24 (0, 0))) ∧ (Below w.heap.size w w')) ?_ ?_
              rotate_left
              ·intro hCont
               refine two_ (i := 2) (j := 8) (Ni := some 94) (Nj := some 100) #[tt,tt,tt,tt,tt,ff,tt,tt,ff,ff,ff,ff,ff,ff,ff,ff,ff,ff,ff] #[tt,tt,ff,tt,tt,ff,tt,tt,tt,ff,ff,ff,ff,ff,ff,ff,ff,ff,ff] rfl rfl rfl rfl (two_of HT_.out (by kernel_rfl)) (by decide) (by decide) (fun K hK => ?_) (fun K hK => ?_)
               ·skip
                refine Kd.N_lit_step k47 _ 47 ?hg (N' := 94) ?hd (xs := ([] : List (Liter))) (inner := []) (ok := (fun k_ => ((P0_2_ k_ ∨ P1_1_ k_) ∨ w.heap.size ≤ k_) ∧ some k_ ≠ (.slice Ao59 y132.length co59 : Value).ownBlock ∧ some k_ ≠ (.slice Ao60 y135.length co60 : Value).ownBlock ∧ k_ ≠ gb101 ∧ k_ ≠ gb102)) (okp := (fun k_ => ((P0_2_ k_ ∨ P1_1_ k_) ∨ w.heap.size ≤ k_) ∧ some k_ ≠ (.slice Ao59 y132.length co59 : Value).ownBlock ∧ some k_ ≠ (.slice Ao60 y135.length co60 : Value).ownBlock ∧ k_ ≠ gb101 ∧ k_ ≠ gb102)) ?hr ?hp (fun _ hk => hk) ((show ∀ k_, w62.heap.size ≤ k_ → (fun k_ => ((P0_2_ k_ ∨ P1_1_ k_) ∨ w.heap.size ≤ k_) ∧ some k_ ≠ (.slice Ao59 y132.length co59 : Value).ownBlock ∧ some k_ ≠ (.slice Ao60 y135.length co60 : Value).ownBlock ∧ k_ ≠ gb101 ∧ k_ ≠ gb102) k_ from fun k_ hk => ⟨(.inr (Nat.le_trans (below_size (by repeat (first | (with_reducible first | exact HB.out | apply below_alloc | apply pw_below_drewN | apply below_drew1 | refine below_set ?_ GE101.out | refine below_set ?_ GE102.out) | exact HB.out))) hk)), Kd.fresh' (Kd.N_lt (by (with_reducible repeat (first | apply Kd.N_alloc | apply Kd.N_drewN | apply Kd.N_drew)); exact HO134.out)) k_ hk, Kd.fresh' (Kd.N_lt (by (with_reducible repeat (first | apply Kd.N_alloc | apply Kd.N_drewN | apply Kd.N_drew)); exact HO137.out)) k_ hk, Kd.freshB (g := gb101) (o := .cells #[.string a0_0, .slice A0_1 l0_1.length c0_1, .slice A0_2 l0_2.length c0_2] 27 (0, 0)) (by (with_reducible repeat (first | refine blk_drewN ?_ _ | refine blk_drew ?_ | refine blk_alloc ?_ _)); exact BK101.out) k_ hk, Kd.freshB (g := gb102) (o := .cells #[.string a1_0, .slice A1_1 l1_1.length c1_1] 24 (0, 0)) (by (with_reducible repeat (first | refine blk_drewN ?_ _ | refine blk_drew ?_ | refine blk_alloc ?_ _)); exact BK102.out) k_ hk⟩) _ (Nat.le_refl _)) (Below.refl _ _) (Nat.le_refl _) (by simp) ?_; (case hd => rfl); (case hg => rfl); (case hr => first | (go_simp; done) | (go_simp; rfl)); (case hp => exact (Reps.none _ _))
                intro v142 w63 ho64 hb hg_ hnew_
                clear hg_ hnew_
                (first | rw [← Ny141.out] at ho64 | (simp only [Int.reduceToNat] at ho64; rw [← Ny141.out] at ho64))
                have n0_ := Aside0.mk (Kd.V_elder' (by (with_reducible repeat (first | apply Kd.V_alloc | apply Kd.V_drewN | apply Kd.V_drew)); exact HO_102002.out) (Kd.N_base ho64) hb)
                have n1_ := Aside0.mk (Kd.V_elder' (by (with_reducible repeat (first | apply Kd.V_alloc | apply Kd.V_drewN | apply Kd.V_drew)); exact HO_103001.out) (Kd.N_base ho64) hb)
                have n2_ := Aside0.mk (Kd.N_elder' (by (with_reducible repeat (first | apply Kd.N_alloc | apply Kd.N_drewN | apply Kd.N_drew)); exact HO134.out) (Kd.N_base ho64) hb)
                have n3_ := Aside0.mk (Kd.N_elder' (by (with_reducible repeat (first | apply Kd.N_alloc | apply Kd.N_drewN | apply Kd.N_drew)); exact HO137.out) (Kd.N_base ho64) hb)
                have n4_ := Aside0.mk (Kd.N_lower ho64 (below_size (by repeat (first | (with_reducible first | exact HB.out | apply below_alloc | apply pw_below_drewN | apply below_drew1 | refine below_set ?_ GE101.out | refine below_set ?_ GE102.out) | exact HB.out))))
                have n5_ := Aside0.mk (blk_below (g := gb101) (o := .cells #[.string a0_0, .slice A0_1 l0_1.length c0_1, .slice A0_2 l0_2.length c0_2] 27 (0, 0)) (by (with_reducible repeat (first | refine blk_drewN ?_ _ | refine blk_drew ?_ | refine blk_alloc ?_ _)); exact BK101.out) hb)
                have n6_ := Aside0.mk (blk_below (g := gb102) (o := .cells #[.string a1_0, .slice A1_1 l1_1.length c1_1] 24 (0, 0)) (by (with_reducible repeat (first | refine blk_drewN ?_ _ | refine blk_drew ?_ | refine blk_alloc ?_ _)); exact BK102.out) hb)
                have n7_ := Aside0.mk (below_step (by repeat (first | (with_reducible first | exact HB.out | apply below_alloc | apply pw_below_drewN | apply below_drew1 | refine below_set ?_ GE101.out | refine below_set ?_ GE102.out) | exact HB.out)) hb)
                clear HO_102002
                clear HO_103001
                clear HO134
                clear HO137
                clear BK101
                clear BK102
                clear HB
                have HO_102002 := n0_
                have HO_103001 := n1_
                have HO134 := n2_
                have HO137 := n3_
                have HO143 := n4_
                have BK101 := n5_
                have BK102 := n6_
                have HB := n7_
                clear n0_ n1_ n2_ n3_ n4_ n5_ n6_ n7_
                clear hb ho64
                refine hK.out _ _ ⟨(blk_cell BK101.out 0).trans rfl, (blk_cell BK101.out 1).trans rfl, (blk_cell BK101.out 2).trans rfl, (blk_cell BK102.out 0).trans rfl, (blk_cell BK102.out 1).trans rfl⟩ (fun hHeld => ?_)
                clear hK K
                refine norm_ (a' := ?_) ?_ ?_
                rotate_left
                ·show Act.put _ (some 94) _ = _
                 simp only [Act.put, List.setIfInBounds_toArray, List.set_cons_zero, List.set_cons_succ, i64_w, i32_w]
                 rfl
                refine two_ (i := 5) (j := 8) (Ni := some 97) (Nj := some 100) #[tt,tt,tt,tt,tt,tt,tt,tt,ff,ff,ff,ff,ff,ff,ff,ff,ff,ff,ff] #[tt,tt,tt,tt,tt,ff,tt,tt,tt,ff,ff,ff,ff,ff,ff,ff,ff,ff,ff] rfl rfl rfl rfl (two_of HT_.out (by kernel_rfl)) (by decide) (by decide) (fun K hK => ?_) (fun K hK => ?_)
                ·skip
                 refine Kd.N_append_rows_step k47 (w0 := w) w.heap.size (by rfl) (.tmp 94) (.tmp 96) 25 47 (.agg #[(.int .i64 0), (.string ⟨#[]⟩), (.slice none 0 0), (.string ⟨#[]⟩), (.bool false), (.string ⟨#[]⟩), (.bool false), (.string ⟨#[]⟩), (.int .i64 0), (.bool false), (.string ⟨#[]⟩), (.bool false), (.string ⟨#[]⟩), (.int .i64 0)]) 176 rfl Try.underlying25 info47 rfl (by decide) (by omega) v142 y141 l0_2 _ _ _ (fun k_ => ((P0_2_ k_ ∨ P1_1_ k_) ∨ w.heap.size ≤ k_) ∧ some k_ ≠ (.slice Ao59 y132.length co59 : Value).ownBlock ∧ some k_ ≠ (.slice Ao60 y135.length co60 : Value).ownBlock ∧ k_ ≠ gb101 ∧ k_ ≠ gb102) (fun k_ => ((fun k_ => ((P0_2_ k_ ∨ P1_1_ k_) ∨ w.heap.size ≤ k_) ∧ some k_ ≠ (.slice Ao59 y132.length co59 : Value).ownBlock ∧ some k_ ≠ (.slice Ao60 y135.length co60 : Value).ownBlock ∧ k_ ≠ gb101 ∧ k_ ≠ gb102)) k_ ∧ some k_ ≠ (v142 : Value).ownBlock) rfl rfl ?aO ?aR (fun _ hk => hk) ?aF ?aB ?aS ?aL ?_
                 (case aR => exact (by skip; exact Kd.V_F (Kd.V_mono (ok' := (fun k_ => ((fun k_ => ((P0_2_ k_ ∨ P1_1_ k_) ∨ w.heap.size ≤ k_) ∧ some k_ ≠ (.slice Ao59 y132.length co59 : Value).ownBlock ∧ some k_ ≠ (.slice Ao60 y135.length co60 : Value).ownBlock ∧ k_ ≠ gb101 ∧ k_ ≠ gb102)) k_ ∧ some k_ ≠ (v142 : Value).ownBlock)) (HO_102002.out) (fun k_ hk => ⟨⟨hk.1.1.1, ⟨hk.1.1.2.1, ⟨hk.1.2, ⟨hk.1.1.2.2.1, hk.1.1.2.2.2⟩⟩⟩⟩, hk.2⟩))))
                 (case aB => exact (by repeat (first | (with_reducible first | exact HB.out | apply below_alloc | apply pw_below_drewN | apply below_drew1 | refine below_set ?_ GE101.out | refine below_set ?_ GE102.out) | exact HB.out)))
                 (case aF => exact (fun k_ hk => ⟨(.inr (Nat.le_trans (below_size (by repeat (first | (with_reducible first | exact HB.out | apply below_alloc | apply pw_below_drewN | apply below_drew1 | refine below_set ?_ GE101.out | refine below_set ?_ GE102.out) | exact HB.out))) hk)), Kd.fresh' (Kd.N_lt (by (with_reducible repeat (first | apply Kd.N_alloc | apply Kd.N_drewN | apply Kd.N_drew)); exact HO134.out)) k_ hk, Kd.fresh' (Kd.N_lt (by (with_reducible repeat (first | apply Kd.N_alloc | apply Kd.N_drewN | apply Kd.N_drew)); exact HO137.out)) k_ hk, Kd.freshB (g := gb101) (o := .cells #[.string a0_0, .slice A0_1 l0_1.length c0_1, .slice A0_2 l0_2.length c0_2] 27 (0, 0)) (by (with_reducible repeat (first | refine blk_drewN ?_ _ | refine blk_drew ?_ | refine blk_alloc ?_ _)); exact BK101.out) k_ hk, Kd.freshB (g := gb102) (o := .cells #[.string a1_0, .slice A1_1 l1_1.length c1_1] 24 (0, 0)) (by (with_reducible repeat (first | refine blk_drewN ?_ _ | refine blk_drew ?_ | refine blk_alloc ?_ _)); exact BK102.out) k_ hk⟩))
                 (case aO => exact (by (with_reducible repeat (first | apply Kd.N_alloc | apply Kd.N_drewN | apply Kd.N_drew)); exact HO143.out))
                 (case aS => exact (below_size (by repeat (first | (with_reducible first | exact HB.out | apply below_alloc | apply pw_below_drewN | apply below_drew1 | refine below_set ?_ GE101.out | refine below_set ?_ GE102.out) | exact HB.out))))
                 (case aL => have := LMc42.out; omega)
                 intro v145 w65 ho hb hg hat
                 rw [← Ny144.out] at ho
                 have n0_ := Aside0.mk (Kd.V_afterv (ok := (fun k_ => ((P0_2_ k_ ∨ P1_1_ k_) ∨ w.heap.size ≤ k_) ∧ some k_ ≠ (.slice Ao59 y132.length co59 : Value).ownBlock ∧ some k_ ≠ (.slice Ao60 y135.length co60 : Value).ownBlock ∧ k_ ≠ gb101 ∧ k_ ≠ gb102)) (by (with_reducible repeat (first | apply Kd.V_alloc | apply Kd.V_drewN | apply Kd.V_drew)); exact Kd.V_mono HO_102002.out (fun _ hk => ⟨⟨hk.1.1.1, ⟨hk.1.1.2.1, ⟨hk.1.2, ⟨hk.1.1.2.2.1, hk.1.1.2.2.2⟩⟩⟩⟩, hk.2⟩)) hg hat)
                 have n1_ := Aside0.mk (Kd.V_afterv (ok := (fun k_ => ((P0_2_ k_ ∨ P1_1_ k_) ∨ w.heap.size ≤ k_) ∧ some k_ ≠ (.slice Ao59 y132.length co59 : Value).ownBlock ∧ some k_ ≠ (.slice Ao60 y135.length co60 : Value).ownBlock ∧ k_ ≠ gb101 ∧ k_ ≠ gb102)) (by (with_reducible repeat (first | apply Kd.V_alloc | apply Kd.V_drewN | apply Kd.V_drew)); exact Kd.V_mono HO_103001.out (fun _ hk => ⟨⟨hk.1.1.1, ⟨hk.1.1.2.1, ⟨hk.1.2, ⟨hk.1.1.2.2.1, hk.1.1.2.2.2⟩⟩⟩⟩, hk.2⟩)) hg hat)
                 have n2_ := Aside0.mk (blk_grown (g := gb101) (o := .cells #[.string a0_0, .slice A0_1 l0_1.length c0_1, .slice A0_2 l0_2.length c0_2] 27 (0, 0)) (by (with_reducible repeat (first | refine blk_drewN ?_ _ | refine blk_drew ?_ | refine blk_alloc ?_ _)); exact BK101.out) hg (Kd.N_ne HO143.out BK101.out (by decide)))
                 have n3_ := Aside0.mk (blk_grown (g := gb102) (o := .cells #[.string a1_0, .slice A1_1 l1_1.length c1_1] 24 (0, 0)) (by (with_reducible repeat (first | refine blk_drewN ?_ _ | refine blk_drew ?_ | refine blk_alloc ?_ _)); exact BK102.out) hg (Kd.N_ne HO143.out BK102.out (by decide)))
                 have n4_ := Aside0.mk (Kd.N_afterv (ok := (fun k_ => ((P0_2_ k_ ∨ P1_1_ k_) ∨ w.heap.size ≤ k_) ∧ some k_ ≠ (.slice Ao60 y135.length co60 : Value).ownBlock ∧ k_ ≠ gb101 ∧ k_ ≠ gb102)) (by (with_reducible repeat (first | apply Kd.N_alloc | apply Kd.N_drewN | apply Kd.N_drew)); exact Kd.N_mono HO134.out (fun _ hk => ⟨⟨hk.1.1.1, ⟨hk.1.2, ⟨hk.1.1.2.1, hk.1.1.2.2⟩⟩⟩, hk.2⟩)) hg hat)
                 have n5_ := Aside0.mk (Kd.N_afterv (ok := (fun k_ => ((P0_2_ k_ ∨ P1_1_ k_) ∨ w.heap.size ≤ k_) ∧ k_ ≠ gb101 ∧ k_ ≠ gb102)) (by (with_reducible repeat (first | apply Kd.N_alloc | apply Kd.N_drewN | apply Kd.N_drew)); exact HO137.out) hg hat)
                 have n6_ := Aside0.mk (hb)
                 have n7_ := Aside0.mk (ho)
                 clear HO_102002
                 clear HO_103001
                 clear BK101
                 clear BK102
                 clear HO134
                 clear HO137
                 clear HB
                 clear HO143
                 have HO_102002 := n0_
                 have HO_103001 := n1_
                 have BK101 := n2_
                 have BK102 := n3_
                 have HO134 := n4_
                 have HO137 := n5_
                 have HB := n6_
                 have HO146 := n7_
                 clear n0_ n1_ n2_ n3_ n4_ n5_ n6_ n7_
                 clear ho hb hg hat
                 refine hK.out _ _ ⟨(blk_cell BK101.out 0).trans rfl, (blk_cell BK101.out 1).trans rfl, (blk_cell BK101.out 2).trans rfl, (blk_cell BK102.out 0).trans rfl, (blk_cell BK102.out 1).trans rfl⟩ (fun hHeld => ?_)
                 clear hK K
                 refine norm_ (a' := ?_) ?_ ?_
                 rotate_left
                 ·show Act.put _ (some 97) _ = _
                  simp only [Act.put, List.setIfInBounds_toArray, List.set_cons_zero, List.set_cons_succ, i64_w, i32_w]
                  rfl
                 refine one_ (i := 8) (N := some 100) #[tt,tt,tt,tt,tt,tt,tt,tt,tt,ff,ff,ff,ff,ff,ff,ff,ff,ff,ff] rfl rfl (one_of HT_.out (by kernel_rfl)) (by decide) (fun K hK => ?_)
                 refine Kd.N_lit_step k47 _ 47 ?hg (N' := 100) ?hd (xs := ([(⟨1, (⟨a1_0, l1_1⟩ : Atom), (⟨#[]⟩ : ByteArray), (⟨false, (⟨#[]⟩ : ByteArray), (⟨false, (⟨#[]⟩ : ByteArray), 0⟩ : Val)⟩ : Term), (⟨false, (⟨#[]⟩ : ByteArray), (⟨false, (⟨#[]⟩ : ByteArray), 0⟩ : Val)⟩ : Term)⟩ : Liter)] : List (Liter))) (inner := [.int .i64 1, .string a1_0, .slice A1_1 l1_1.length c1_1, .string (⟨#[]⟩ : ByteArray), .bool false, .string (⟨#[]⟩ : ByteArray), .bool false, .string (⟨#[]⟩ : ByteArray), .int .i64 0, .bool false, .string (⟨#[]⟩ : ByteArray), .bool false, .string (⟨#[]⟩ : ByteArray), .int .i64 0]) (ok := (fun k_ => ((P0_2_ k_ ∨ P1_1_ k_) ∨ w.heap.size ≤ k_) ∧ some k_ ≠ (.slice Ao59 y132.length co59 : Value).ownBlock ∧ some k_ ≠ (.slice Ao60 y135.length co60 : Value).ownBlock ∧ some k_ ≠ (v145 : Value).ownBlock ∧ k_ ≠ gb101 ∧ k_ ≠ gb102)) (okp := (fun k_ => ((P0_2_ k_ ∨ P1_1_ k_) ∨ w.heap.size ≤ k_) ∧ some k_ ≠ (.slice Ao59 y132.length co59 : Value).ownBlock ∧ some k_ ≠ (.slice Ao60 y135.length co60 : Value).ownBlock ∧ some k_ ≠ (v145 : Value).ownBlock ∧ k_ ≠ gb101 ∧ k_ ≠ gb102)) ?hr ?hp (fun _ hk => hk) ((show ∀ k_, w65.heap.size ≤ k_ → (fun k_ => ((P0_2_ k_ ∨ P1_1_ k_) ∨ w.heap.size ≤ k_) ∧ some k_ ≠ (.slice Ao59 y132.length co59 : Value).ownBlock ∧ some k_ ≠ (.slice Ao60 y135.length co60 : Value).ownBlock ∧ some k_ ≠ (v145 : Value).ownBlock ∧ k_ ≠ gb101 ∧ k_ ≠ gb102) k_ from fun k_ hk => ⟨(.inr (Nat.le_trans (below_size (by repeat (first | (with_reducible first | exact HB.out | apply below_alloc | apply pw_below_drewN | apply below_drew1 | refine below_set ?_ GE101.out | refine below_set ?_ GE102.out) | exact HB.out))) hk)), Kd.fresh' (Kd.N_lt (by (with_reducible repeat (first | apply Kd.N_alloc | apply Kd.N_drewN | apply Kd.N_drew)); exact HO134.out)) k_ hk, Kd.fresh' (Kd.N_lt (by (with_reducible repeat (first | apply Kd.N_alloc | apply Kd.N_drewN | apply Kd.N_drew)); exact HO137.out)) k_ hk, Kd.fresh' (Kd.N_lt (by (with_reducible repeat (first | apply Kd.N_alloc | apply Kd.N_drewN | apply Kd.N_drew)); exact HO146.out)) k_ hk, Kd.freshB (g := gb101) (o := .cells #[.string a0_0, .slice A0_1 l0_1.length c0_1, .slice A0_2 l0_2.length c0_2] 27 (0, 0)) (by (with_reducible repeat (first | refine blk_drewN ?_ _ | refine blk_drew ?_ | refine blk_alloc ?_ _)); exact BK101.out) k_ hk, Kd.freshB (g := gb102) (o := .cells #[.string a1_0, .slice A1_1 l1_1.length c1_1] 24 (0, 0)) (by (with_reducible repeat (first | refine blk_drewN ?_ _ | refine blk_drew ?_ | refine blk_alloc ?_ _)); exact BK102.out) k_ hk⟩) _ (Nat.le_refl _)) (Below.refl _ _) (Nat.le_refl _) (by simp) ?_; (case hd => rfl); (case hg => rfl); (case hr => first | (go_simp; done) | (go_simp; rfl)); (case hp => exact (Reps.front (show Kd.FK k47 _ _ (⟨1, (⟨a1_0, l1_1⟩ : Atom), (⟨#[]⟩ : ByteArray), (⟨false, (⟨#[]⟩ : ByteArray), (⟨false, (⟨#[]⟩ : ByteArray), 0⟩ : Val)⟩ : Term), (⟨false, (⟨#[]⟩ : ByteArray), (⟨false, (⟨#[]⟩ : ByteArray), 0⟩ : Val)⟩ : Term)⟩ : Liter) [.int .i64 1, .string a1_0, .slice A1_1 l1_1.length c1_1, .string (⟨#[]⟩ : ByteArray), .bool false, .string (⟨#[]⟩ : ByteArray), .bool false, .string (⟨#[]⟩ : ByteArray), .int .i64 0, .bool false, .string (⟨#[]⟩ : ByteArray), .bool false, .string (⟨#[]⟩ : ByteArray), .int .i64 0] from (k47_mkF _ _ (⟨1, (⟨a1_0, l1_1⟩ : Atom), (⟨#[]⟩ : ByteArray), (⟨false, (⟨#[]⟩ : ByteArray), (⟨false, (⟨#[]⟩ : ByteArray), 0⟩ : Val)⟩ : Term), (⟨false, (⟨#[]⟩ : ByteArray), (⟨false, (⟨#[]⟩ : ByteArray), 0⟩ : Val)⟩ : Term)⟩ : Liter) (Kd.V_reads' (Kd.V_mono (ok' := (fun k_ => ((P0_2_ k_ ∨ P1_1_ k_) ∨ w.heap.size ≤ k_) ∧ some k_ ≠ (.slice Ao59 y132.length co59 : Value).ownBlock ∧ some k_ ≠ (.slice Ao60 y135.length co60 : Value).ownBlock ∧ some k_ ≠ (v145 : Value).ownBlock ∧ k_ ≠ gb101 ∧ k_ ≠ gb102)) (HO_103001.out) (fun k_ hk => ⟨hk.1.1, ⟨hk.1.2.1, ⟨hk.1.2.2.1, ⟨hk.2, ⟨hk.1.2.2.2.1, hk.1.2.2.2.2⟩⟩⟩⟩⟩))).2.1 (Kd.V_F (Kd.V_mono (ok' := (fun k_ => ((P0_2_ k_ ∨ P1_1_ k_) ∨ w.heap.size ≤ k_) ∧ some k_ ≠ (.slice Ao59 y132.length co59 : Value).ownBlock ∧ some k_ ≠ (.slice Ao60 y135.length co60 : Value).ownBlock ∧ some k_ ≠ (v145 : Value).ownBlock ∧ k_ ≠ gb101 ∧ k_ ≠ gb102)) (HO_103001.out) (fun k_ hk => ⟨hk.1.1, ⟨hk.1.2.1, ⟨hk.1.2.2.1, ⟨hk.2, ⟨hk.1.2.2.2.1, hk.1.2.2.2.2⟩⟩⟩⟩⟩))))) rfl (Reps.none _ _) rfl))
                 intro v148 w66 ho67 hb hg_ hnew_
                 clear hg_ hnew_
                 (first | rw [← Ny147.out] at ho67 | (simp only [Int.reduceToNat] at ho67; rw [← Ny147.out] at ho67))
                 have n0_ := Aside0.mk (Kd.V_elder' (by (with_reducible repeat (first | apply Kd.V_alloc | apply Kd.V_drewN | apply Kd.V_drew)); exact HO_102002.out) (Kd.N_base ho67) hb)
                 have n1_ := Aside0.mk (Kd.V_elder' (by (with_reducible repeat (first | apply Kd.V_alloc | apply Kd.V_drewN | apply Kd.V_drew)); exact HO_103001.out) (Kd.N_base ho67) hb)
                 have n2_ := Aside0.mk (Kd.N_elder' (by (with_reducible repeat (first | apply Kd.N_alloc | apply Kd.N_drewN | apply Kd.N_drew)); exact HO134.out) (Kd.N_base ho67) hb)
                 have n3_ := Aside0.mk (Kd.N_elder' (by (with_reducible repeat (first | apply Kd.N_alloc | apply Kd.N_drewN | apply Kd.N_drew)); exact HO137.out) (Kd.N_base ho67) hb)
                 have n4_ := Aside0.mk (Kd.N_elder' (by (with_reducible repeat (first | apply Kd.N_alloc | apply Kd.N_drewN | apply Kd.N_drew)); exact HO146.out) (Kd.N_base ho67) hb)
                 have n5_ := Aside0.mk (Kd.N_lower ho67 (below_size (by repeat (first | (with_reducible first | exact HB.out | apply below_alloc | apply pw_below_drewN | apply below_drew1 | refine below_set ?_ GE101.out | refine below_set ?_ GE102.out) | exact HB.out))))
                 have n6_ := Aside0.mk (blk_below (g := gb101) (o := .cells #[.string a0_0, .slice A0_1 l0_1.length c0_1, .slice A0_2 l0_2.length c0_2] 27 (0, 0)) (by (with_reducible repeat (first | refine blk_drewN ?_ _ | refine blk_drew ?_ | refine blk_alloc ?_ _)); exact BK101.out) hb)
                 have n7_ := Aside0.mk (blk_below (g := gb102) (o := .cells #[.string a1_0, .slice A1_1 l1_1.length c1_1] 24 (0, 0)) (by (with_reducible repeat (first | refine blk_drewN ?_ _ | refine blk_drew ?_ | refine blk_alloc ?_ _)); exact BK102.out) hb)
                 have n8_ := Aside0.mk (below_step (by repeat (first | (with_reducible first | exact HB.out | apply below_alloc | apply pw_below_drewN | apply below_drew1 | refine below_set ?_ GE101.out | refine below_set ?_ GE102.out) | exact HB.out)) hb)
                 clear HO_102002
                 clear HO_103001
                 clear HO134
                 clear HO137
                 clear HO146
                 clear BK101
                 clear BK102
                 clear HB
                 have HO_102002 := n0_
                 have HO_103001 := n1_
                 have HO134 := n2_
                 have HO137 := n3_
                 have HO146 := n4_
                 have HO149 := n5_
                 have BK101 := n6_
                 have BK102 := n7_
                 have HB := n8_
                 clear n0_ n1_ n2_ n3_ n4_ n5_ n6_ n7_ n8_
                 clear hb ho67
                 refine hK.out _ _ ⟨(blk_cell BK101.out 0).trans rfl, (blk_cell BK101.out 1).trans rfl, (blk_cell BK101.out 2).trans rfl, (blk_cell BK102.out 0).trans rfl, (blk_cell BK102.out 1).trans rfl⟩ (fun hHeld => ?_)
                 clear hK K
                 refine norm_ (a' := ?_) ?_ ?_
                 rotate_left
                 ·show Act.put _ (some 100) _ = _
                  simp only [Act.put, List.setIfInBounds_toArray, List.set_cons_zero, List.set_cons_succ, i64_w, i32_w]
                  rfl
                 exact norm_ (by simp only [putAll, Act.put, List.setIfInBounds_toArray, List.set_cons_zero, List.set_cons_succ]) (hCont (v142, v145, v148) _ ⟨hHeld, (by (with_reducible repeat (first | apply Kd.N_alloc | apply Kd.N_drewN | apply Kd.N_drew)); exact Kd.N_mono HO134.out (fun _ hk => ⟨hk.1.1.1, ⟨hk.1.1.2.1, ⟨hk.1.2, ⟨hk.2, ⟨hk.1.1.2.2.1, hk.1.1.2.2.2⟩⟩⟩⟩⟩)), (by (with_reducible repeat (first | apply Kd.N_alloc | apply Kd.N_drewN | apply Kd.N_drew)); exact Kd.N_mono HO137.out (fun _ hk => ⟨hk.1.1.1, ⟨hk.1.2, ⟨hk.2, ⟨hk.1.1.2.1, hk.1.1.2.2⟩⟩⟩⟩)), (by (with_reducible repeat (first | apply Kd.N_alloc | apply Kd.N_drewN | apply Kd.N_drew)); exact Kd.N_mono HO146.out (fun _ hk => ⟨hk.1.1, ⟨hk.1.2.1, ⟨hk.1.2.2.1, ⟨hk.2, ⟨hk.1.2.2.2.1, hk.1.2.2.2.2⟩⟩⟩⟩⟩)), (by (with_reducible repeat (first | apply Kd.N_alloc | apply Kd.N_drewN | apply Kd.N_drew)); exact HO149.out), (by (with_reducible repeat (first | apply Kd.V_alloc | apply Kd.V_drewN | apply Kd.V_drew)); exact Kd.V_mono HO_102002.out (fun _ hk => ⟨hk.1.1.1, ⟨hk.1.1.2.1, ⟨hk.1.1.2.2.1, ⟨hk.1.2, ⟨hk.2, ⟨hk.1.1.2.2.2.1, hk.1.1.2.2.2.2⟩⟩⟩⟩⟩⟩)), (by (with_reducible repeat (first | apply Kd.V_alloc | apply Kd.V_drewN | apply Kd.V_drew)); exact Kd.V_mono HO_103001.out (fun _ hk => ⟨hk.1.1.1, ⟨hk.1.1.2.1, ⟨hk.1.1.2.2.1, ⟨hk.1.2, ⟨hk.2, ⟨hk.1.1.2.2.2.1, hk.1.1.2.2.2.2⟩⟩⟩⟩⟩⟩)), (by (with_reducible repeat (first | refine blk_drewN ?_ _ | refine blk_drew ?_ | refine blk_alloc ?_ _)); exact BK101.out), (by (with_reducible repeat (first | refine blk_drewN ?_ _ | refine blk_drew ?_ | refine blk_alloc ?_ _)); exact BK102.out), (by repeat (first | (with_reducible first | exact HB.out | apply below_alloc | apply pw_below_drewN | apply below_drew1 | refine below_set ?_ GE101.out | refine below_set ?_ GE102.out) | exact HB.out))⟩)
                ·skip
                 refine Kd.N_lit_step k47 _ 47 ?hg (N' := 100) ?hd (xs := ([(⟨1, (⟨a1_0, l1_1⟩ : Atom), (⟨#[]⟩ : ByteArray), (⟨false, (⟨#[]⟩ : ByteArray), (⟨false, (⟨#[]⟩ : ByteArray), 0⟩ : Val)⟩ : Term), (⟨false, (⟨#[]⟩ : ByteArray), (⟨false, (⟨#[]⟩ : ByteArray), 0⟩ : Val)⟩ : Term)⟩ : Liter)] : List (Liter))) (inner := [.int .i64 1, .string a1_0, .slice A1_1 l1_1.length c1_1, .string (⟨#[]⟩ : ByteArray), .bool false, .string (⟨#[]⟩ : ByteArray), .bool false, .string (⟨#[]⟩ : ByteArray), .int .i64 0, .bool false, .string (⟨#[]⟩ : ByteArray), .bool false, .string (⟨#[]⟩ : ByteArray), .int .i64 0]) (ok := (fun k_ => ((P0_2_ k_ ∨ P1_1_ k_) ∨ w.heap.size ≤ k_) ∧ some k_ ≠ (.slice Ao59 y132.length co59 : Value).ownBlock ∧ some k_ ≠ (.slice Ao60 y135.length co60 : Value).ownBlock ∧ some k_ ≠ (v142 : Value).ownBlock ∧ k_ ≠ gb101 ∧ k_ ≠ gb102)) (okp := (fun k_ => ((P0_2_ k_ ∨ P1_1_ k_) ∨ w.heap.size ≤ k_) ∧ some k_ ≠ (.slice Ao59 y132.length co59 : Value).ownBlock ∧ some k_ ≠ (.slice Ao60 y135.length co60 : Value).ownBlock ∧ some k_ ≠ (v142 : Value).ownBlock ∧ k_ ≠ gb101 ∧ k_ ≠ gb102)) ?hr ?hp (fun _ hk => hk) ((show ∀ k_, w63.heap.size ≤ k_ → (fun k_ => ((P0_2_ k_ ∨ P1_1_ k_) ∨ w.heap.size ≤ k_) ∧ some k_ ≠ (.slice Ao59 y132.length co59 : Value).ownBlock ∧ some k_ ≠ (.slice Ao60 y135.length co60 : Value).ownBlock ∧ some k_ ≠ (v142 : Value).ownBlock ∧ k_ ≠ gb101 ∧ k_ ≠ gb102) k_ from fun k_ hk => ⟨(.inr (Nat.le_trans (below_size (by repeat (first | (with_reducible first | exact HB.out | apply below_alloc | apply pw_below_drewN | apply below_drew1 | refine below_set ?_ GE101.out | refine below_set ?_ GE102.out) | exact HB.out))) hk)), Kd.fresh' (Kd.N_lt (by (with_reducible repeat (first | apply Kd.N_alloc | apply Kd.N_drewN | apply Kd.N_drew)); exact HO134.out)) k_ hk, Kd.fresh' (Kd.N_lt (by (with_reducible repeat (first | apply Kd.N_alloc | apply Kd.N_drewN | apply Kd.N_drew)); exact HO137.out)) k_ hk, Kd.fresh' (Kd.N_lt (by (with_reducible repeat (first | apply Kd.N_alloc | apply Kd.N_drewN | apply Kd.N_drew)); exact HO143.out)) k_ hk, Kd.freshB (g := gb101) (o := .cells #[.string a0_0, .slice A0_1 l0_1.length c0_1, .slice A0_2 l0_2.length c0_2] 27 (0, 0)) (by (with_reducible repeat (first | refine blk_drewN ?_ _ | refine blk_drew ?_ | refine blk_alloc ?_ _)); exact BK101.out) k_ hk, Kd.freshB (g := gb102) (o := .cells #[.string a1_0, .slice A1_1 l1_1.length c1_1] 24 (0, 0)) (by (with_reducible repeat (first | refine blk_drewN ?_ _ | refine blk_drew ?_ | refine blk_alloc ?_ _)); exact BK102.out) k_ hk⟩) _ (Nat.le_refl _)) (Below.refl _ _) (Nat.le_refl _) (by simp) ?_; (case hd => rfl); (case hg => rfl); (case hr => first | (go_simp; done) | (go_simp; rfl)); (case hp => exact (Reps.front (show Kd.FK k47 _ _ (⟨1, (⟨a1_0, l1_1⟩ : Atom), (⟨#[]⟩ : ByteArray), (⟨false, (⟨#[]⟩ : ByteArray), (⟨false, (⟨#[]⟩ : ByteArray), 0⟩ : Val)⟩ : Term), (⟨false, (⟨#[]⟩ : ByteArray), (⟨false, (⟨#[]⟩ : ByteArray), 0⟩ : Val)⟩ : Term)⟩ : Liter) [.int .i64 1, .string a1_0, .slice A1_1 l1_1.length c1_1, .string (⟨#[]⟩ : ByteArray), .bool false, .string (⟨#[]⟩ : ByteArray), .bool false, .string (⟨#[]⟩ : ByteArray), .int .i64 0, .bool false, .string (⟨#[]⟩ : ByteArray), .bool false, .string (⟨#[]⟩ : ByteArray), .int .i64 0] from (k47_mkF _ _ (⟨1, (⟨a1_0, l1_1⟩ : Atom), (⟨#[]⟩ : ByteArray), (⟨false, (⟨#[]⟩ : ByteArray), (⟨false, (⟨#[]⟩ : ByteArray), 0⟩ : Val)⟩ : Term), (⟨false, (⟨#[]⟩ : ByteArray), (⟨false, (⟨#[]⟩ : ByteArray), 0⟩ : Val)⟩ : Term)⟩ : Liter) (Kd.V_reads' (Kd.V_mono (ok' := (fun k_ => ((P0_2_ k_ ∨ P1_1_ k_) ∨ w.heap.size ≤ k_) ∧ some k_ ≠ (.slice Ao59 y132.length co59 : Value).ownBlock ∧ some k_ ≠ (.slice Ao60 y135.length co60 : Value).ownBlock ∧ some k_ ≠ (v142 : Value).ownBlock ∧ k_ ≠ gb101 ∧ k_ ≠ gb102)) (HO_103001.out) (fun k_ hk => ⟨hk.1.1.1, ⟨hk.1.1.2.1, ⟨hk.1.2, ⟨hk.2, ⟨hk.1.1.2.2.1, hk.1.1.2.2.2⟩⟩⟩⟩⟩))).2.1 (Kd.V_F (Kd.V_mono (ok' := (fun k_ => ((P0_2_ k_ ∨ P1_1_ k_) ∨ w.heap.size ≤ k_) ∧ some k_ ≠ (.slice Ao59 y132.length co59 : Value).ownBlock ∧ some k_ ≠ (.slice Ao60 y135.length co60 : Value).ownBlock ∧ some k_ ≠ (v142 : Value).ownBlock ∧ k_ ≠ gb101 ∧ k_ ≠ gb102)) (HO_103001.out) (fun k_ hk => ⟨hk.1.1.1, ⟨hk.1.1.2.1, ⟨hk.1.2, ⟨hk.2, ⟨hk.1.1.2.2.1, hk.1.1.2.2.2⟩⟩⟩⟩⟩))))) rfl (Reps.none _ _) rfl))
                 intro v148 w65 ho66 hb hg_ hnew_
                 clear hg_ hnew_
                 (first | rw [← Ny147.out] at ho66 | (simp only [Int.reduceToNat] at ho66; rw [← Ny147.out] at ho66))
                 have n0_ := Aside0.mk (Kd.V_elder' (by (with_reducible repeat (first | apply Kd.V_alloc | apply Kd.V_drewN | apply Kd.V_drew)); exact HO_102002.out) (Kd.N_base ho66) hb)
                 have n1_ := Aside0.mk (Kd.V_elder' (by (with_reducible repeat (first | apply Kd.V_alloc | apply Kd.V_drewN | apply Kd.V_drew)); exact HO_103001.out) (Kd.N_base ho66) hb)
                 have n2_ := Aside0.mk (Kd.N_elder' (by (with_reducible repeat (first | apply Kd.N_alloc | apply Kd.N_drewN | apply Kd.N_drew)); exact HO134.out) (Kd.N_base ho66) hb)
                 have n3_ := Aside0.mk (Kd.N_elder' (by (with_reducible repeat (first | apply Kd.N_alloc | apply Kd.N_drewN | apply Kd.N_drew)); exact HO137.out) (Kd.N_base ho66) hb)
                 have n4_ := Aside0.mk (Kd.N_elder' (by (with_reducible repeat (first | apply Kd.N_alloc | apply Kd.N_drewN | apply Kd.N_drew)); exact HO143.out) (Kd.N_base ho66) hb)
                 have n5_ := Aside0.mk (Kd.N_lower ho66 (below_size (by repeat (first | (with_reducible first | exact HB.out | apply below_alloc | apply pw_below_drewN | apply below_drew1 | refine below_set ?_ GE101.out | refine below_set ?_ GE102.out) | exact HB.out))))
                 have n6_ := Aside0.mk (blk_below (g := gb101) (o := .cells #[.string a0_0, .slice A0_1 l0_1.length c0_1, .slice A0_2 l0_2.length c0_2] 27 (0, 0)) (by (with_reducible repeat (first | refine blk_drewN ?_ _ | refine blk_drew ?_ | refine blk_alloc ?_ _)); exact BK101.out) hb)
                 have n7_ := Aside0.mk (blk_below (g := gb102) (o := .cells #[.string a1_0, .slice A1_1 l1_1.length c1_1] 24 (0, 0)) (by (with_reducible repeat (first | refine blk_drewN ?_ _ | refine blk_drew ?_ | refine blk_alloc ?_ _)); exact BK102.out) hb)
                 have n8_ := Aside0.mk (below_step (by repeat (first | (with_reducible first | exact HB.out | apply below_alloc | apply pw_below_drewN | apply below_drew1 | refine below_set ?_ GE101.out | refine below_set ?_ GE102.out) | exact HB.out)) hb)
                 clear HO_102002
                 clear HO_103001
                 clear HO134
                 clear HO137
                 clear HO143
                 clear BK101
                 clear BK102
                 clear HB
                 have HO_102002 := n0_
                 have HO_103001 := n1_
                 have HO134 := n2_
                 have HO137 := n3_
                 have HO143 := n4_
                 have HO149 := n5_
                 have BK101 := n6_
                 have BK102 := n7_
                 have HB := n8_
                 clear n0_ n1_ n2_ n3_ n4_ n5_ n6_ n7_ n8_
                 clear hb ho66
                 refine hK.out _ _ ⟨(blk_cell BK101.out 0).trans rfl, (blk_cell BK101.out 1).trans rfl, (blk_cell BK101.out 2).trans rfl, (blk_cell BK102.out 0).trans rfl, (blk_cell BK102.out 1).trans rfl⟩ (fun hHeld => ?_)
                 clear hK K
                 refine norm_ (a' := ?_) ?_ ?_
                 rotate_left
                 ·show Act.put _ (some 100) _ = _
                  simp only [Act.put, List.setIfInBounds_toArray, List.set_cons_zero, List.set_cons_succ, i64_w, i32_w]
                  rfl
                 refine one_ (i := 5) (N := some 97) #[tt,tt,tt,tt,tt,tt,tt,tt,tt,ff,ff,ff,ff,ff,ff,ff,ff,ff,ff] rfl rfl (one_of HT_.out (by kernel_rfl)) (by decide) (fun K hK => ?_)
                 refine Kd.N_append_rows_step k47 (w0 := w) w.heap.size (by rfl) (.tmp 94) (.tmp 96) 25 47 (.agg #[(.int .i64 0), (.string ⟨#[]⟩), (.slice none 0 0), (.string ⟨#[]⟩), (.bool false), (.string ⟨#[]⟩), (.bool false), (.string ⟨#[]⟩), (.int .i64 0), (.bool false), (.string ⟨#[]⟩), (.bool false), (.string ⟨#[]⟩), (.int .i64 0)]) 176 rfl Try.underlying25 info47 rfl (by decide) (by omega) v142 y141 l0_2 _ _ _ (fun k_ => ((P0_2_ k_ ∨ P1_1_ k_) ∨ w.heap.size ≤ k_) ∧ some k_ ≠ (.slice Ao59 y132.length co59 : Value).ownBlock ∧ some k_ ≠ (.slice Ao60 y135.length co60 : Value).ownBlock ∧ some k_ ≠ (v148 : Value).ownBlock ∧ k_ ≠ gb101 ∧ k_ ≠ gb102) (fun k_ => ((fun k_ => ((P0_2_ k_ ∨ P1_1_ k_) ∨ w.heap.size ≤ k_) ∧ some k_ ≠ (.slice Ao59 y132.length co59 : Value).ownBlock ∧ some k_ ≠ (.slice Ao60 y135.length co60 : Value).ownBlock ∧ some k_ ≠ (v148 : Value).ownBlock ∧ k_ ≠ gb101 ∧ k_ ≠ gb102)) k_ ∧ some k_ ≠ (v142 : Value).ownBlock) rfl rfl ?aO ?aR (fun _ hk => hk) ?aF ?aB ?aS ?aL ?_
                 (case aR => exact (by skip; exact Kd.V_F (Kd.V_mono (ok' := (fun k_ => ((fun k_ => ((P0_2_ k_ ∨ P1_1_ k_) ∨ w.heap.size ≤ k_) ∧ some k_ ≠ (.slice Ao59 y132.length co59 : Value).ownBlock ∧ some k_ ≠ (.slice Ao60 y135.length co60 : Value).ownBlock ∧ some k_ ≠ (v148 : Value).ownBlock ∧ k_ ≠ gb101 ∧ k_ ≠ gb102)) k_ ∧ some k_ ≠ (v142 : Value).ownBlock)) (HO_102002.out) (fun k_ hk => ⟨⟨hk.1.1.1.1, ⟨hk.1.1.1.2.1, ⟨hk.1.1.2, ⟨hk.2, ⟨hk.1.1.1.2.2.1, hk.1.1.1.2.2.2⟩⟩⟩⟩⟩, hk.1.2⟩))))
                 (case aB => exact (by repeat (first | (with_reducible first | exact HB.out | apply below_alloc | apply pw_below_drewN | apply below_drew1 | refine below_set ?_ GE101.out | refine below_set ?_ GE102.out) | exact HB.out)))
                 (case aF => exact (fun k_ hk => ⟨(.inr (Nat.le_trans (below_size (by repeat (first | (with_reducible first | exact HB.out | apply below_alloc | apply pw_below_drewN | apply below_drew1 | refine below_set ?_ GE101.out | refine below_set ?_ GE102.out) | exact HB.out))) hk)), Kd.fresh' (Kd.N_lt (by (with_reducible repeat (first | apply Kd.N_alloc | apply Kd.N_drewN | apply Kd.N_drew)); exact HO134.out)) k_ hk, Kd.fresh' (Kd.N_lt (by (with_reducible repeat (first | apply Kd.N_alloc | apply Kd.N_drewN | apply Kd.N_drew)); exact HO137.out)) k_ hk, Kd.fresh' (Kd.N_lt (by (with_reducible repeat (first | apply Kd.N_alloc | apply Kd.N_drewN | apply Kd.N_drew)); exact HO149.out)) k_ hk, Kd.freshB (g := gb101) (o := .cells #[.string a0_0, .slice A0_1 l0_1.length c0_1, .slice A0_2 l0_2.length c0_2] 27 (0, 0)) (by (with_reducible repeat (first | refine blk_drewN ?_ _ | refine blk_drew ?_ | refine blk_alloc ?_ _)); exact BK101.out) k_ hk, Kd.freshB (g := gb102) (o := .cells #[.string a1_0, .slice A1_1 l1_1.length c1_1] 24 (0, 0)) (by (with_reducible repeat (first | refine blk_drewN ?_ _ | refine blk_drew ?_ | refine blk_alloc ?_ _)); exact BK102.out) k_ hk⟩))
                 (case aO => exact (by (with_reducible repeat (first | apply Kd.N_alloc | apply Kd.N_drewN | apply Kd.N_drew)); exact Kd.N_mono HO143.out (fun _ hk => ⟨hk.1.1, ⟨hk.1.2.1, ⟨hk.1.2.2.1, ⟨hk.2, ⟨hk.1.2.2.2.1, hk.1.2.2.2.2⟩⟩⟩⟩⟩)))
                 (case aS => exact (below_size (by repeat (first | (with_reducible first | exact HB.out | apply below_alloc | apply pw_below_drewN | apply below_drew1 | refine below_set ?_ GE101.out | refine below_set ?_ GE102.out) | exact HB.out))))
                 (case aL => have := LMc42.out; omega)
                 intro v145 w67 ho hb hg hat
                 rw [← Ny144.out] at ho
                 have n0_ := Aside0.mk (Kd.V_afterv (ok := (fun k_ => ((P0_2_ k_ ∨ P1_1_ k_) ∨ w.heap.size ≤ k_) ∧ some k_ ≠ (.slice Ao59 y132.length co59 : Value).ownBlock ∧ some k_ ≠ (.slice Ao60 y135.length co60 : Value).ownBlock ∧ some k_ ≠ (v148 : Value).ownBlock ∧ k_ ≠ gb101 ∧ k_ ≠ gb102)) (by (with_reducible repeat (first | apply Kd.V_alloc | apply Kd.V_drewN | apply Kd.V_drew)); exact Kd.V_mono HO_102002.out (fun _ hk => ⟨⟨hk.1.1.1.1, ⟨hk.1.1.1.2.1, ⟨hk.1.1.2, ⟨hk.2, ⟨hk.1.1.1.2.2.1, hk.1.1.1.2.2.2⟩⟩⟩⟩⟩, hk.1.2⟩)) hg hat)
                 have n1_ := Aside0.mk (Kd.V_afterv (ok := (fun k_ => ((P0_2_ k_ ∨ P1_1_ k_) ∨ w.heap.size ≤ k_) ∧ some k_ ≠ (.slice Ao59 y132.length co59 : Value).ownBlock ∧ some k_ ≠ (.slice Ao60 y135.length co60 : Value).ownBlock ∧ some k_ ≠ (v148 : Value).ownBlock ∧ k_ ≠ gb101 ∧ k_ ≠ gb102)) (by (with_reducible repeat (first | apply Kd.V_alloc | apply Kd.V_drewN | apply Kd.V_drew)); exact Kd.V_mono HO_103001.out (fun _ hk => ⟨⟨hk.1.1.1.1, ⟨hk.1.1.1.2.1, ⟨hk.1.1.2, ⟨hk.2, ⟨hk.1.1.1.2.2.1, hk.1.1.1.2.2.2⟩⟩⟩⟩⟩, hk.1.2⟩)) hg hat)
                 have n2_ := Aside0.mk (blk_grown (g := gb101) (o := .cells #[.string a0_0, .slice A0_1 l0_1.length c0_1, .slice A0_2 l0_2.length c0_2] 27 (0, 0)) (by (with_reducible repeat (first | refine blk_drewN ?_ _ | refine blk_drew ?_ | refine blk_alloc ?_ _)); exact BK101.out) hg (Kd.N_ne HO143.out BK101.out (by decide)))
                 have n3_ := Aside0.mk (blk_grown (g := gb102) (o := .cells #[.string a1_0, .slice A1_1 l1_1.length c1_1] 24 (0, 0)) (by (with_reducible repeat (first | refine blk_drewN ?_ _ | refine blk_drew ?_ | refine blk_alloc ?_ _)); exact BK102.out) hg (Kd.N_ne HO143.out BK102.out (by decide)))
                 have n4_ := Aside0.mk (Kd.N_afterv (ok := (fun k_ => ((P0_2_ k_ ∨ P1_1_ k_) ∨ w.heap.size ≤ k_) ∧ some k_ ≠ (.slice Ao60 y135.length co60 : Value).ownBlock ∧ some k_ ≠ (v148 : Value).ownBlock ∧ k_ ≠ gb101 ∧ k_ ≠ gb102)) (by (with_reducible repeat (first | apply Kd.N_alloc | apply Kd.N_drewN | apply Kd.N_drew)); exact Kd.N_mono HO134.out (fun _ hk => ⟨⟨hk.1.1.1.1, ⟨hk.1.1.2, ⟨hk.2, ⟨hk.1.1.1.2.1, hk.1.1.1.2.2⟩⟩⟩⟩, hk.1.2⟩)) hg hat)
                 have n5_ := Aside0.mk (Kd.N_afterv (ok := (fun k_ => ((P0_2_ k_ ∨ P1_1_ k_) ∨ w.heap.size ≤ k_) ∧ some k_ ≠ (v148 : Value).ownBlock ∧ k_ ≠ gb101 ∧ k_ ≠ gb102)) (by (with_reducible repeat (first | apply Kd.N_alloc | apply Kd.N_drewN | apply Kd.N_drew)); exact Kd.N_mono HO137.out (fun _ hk => ⟨⟨hk.1.1.1, ⟨hk.2, ⟨hk.1.1.2.1, hk.1.1.2.2⟩⟩⟩, hk.1.2⟩)) hg hat)
                 have n6_ := Aside0.mk (Kd.N_afterv (ok := (fun k_ => ((P0_2_ k_ ∨ P1_1_ k_) ∨ w.heap.size ≤ k_) ∧ some k_ ≠ (.slice Ao59 y132.length co59 : Value).ownBlock ∧ some k_ ≠ (.slice Ao60 y135.length co60 : Value).ownBlock ∧ k_ ≠ gb101 ∧ k_ ≠ gb102)) (by (with_reducible repeat (first | apply Kd.N_alloc | apply Kd.N_drewN | apply Kd.N_drew)); exact Kd.N_mono HO149.out (fun _ hk => ⟨⟨hk.1, ⟨hk.2.1, ⟨hk.2.2.1, ⟨hk.2.2.2.2.1, hk.2.2.2.2.2⟩⟩⟩⟩, hk.2.2.2.1⟩)) hg hat)
                 have n7_ := Aside0.mk (hb)
                 have n8_ := Aside0.mk (ho)
                 clear HO_102002
                 clear HO_103001
                 clear BK101
                 clear BK102
                 clear HO134
                 clear HO137
                 clear HO149
                 clear HB
                 clear HO143
                 have HO_102002 := n0_
                 have HO_103001 := n1_
                 have BK101 := n2_
                 have BK102 := n3_
                 have HO134 := n4_
                 have HO137 := n5_
                 have HO149 := n6_
                 have HB := n7_
                 have HO146 := n8_
                 clear n0_ n1_ n2_ n3_ n4_ n5_ n6_ n7_ n8_
                 clear ho hb hg hat
                 refine hK.out _ _ ⟨(blk_cell BK101.out 0).trans rfl, (blk_cell BK101.out 1).trans rfl, (blk_cell BK101.out 2).trans rfl, (blk_cell BK102.out 0).trans rfl, (blk_cell BK102.out 1).trans rfl⟩ (fun hHeld => ?_)
                 clear hK K
                 refine norm_ (a' := ?_) ?_ ?_
                 rotate_left
                 ·show Act.put _ (some 97) _ = _
                  simp only [Act.put, List.setIfInBounds_toArray, List.set_cons_zero, List.set_cons_succ, i64_w, i32_w]
                  rfl
                 exact norm_ (by simp only [putAll, Act.put, List.setIfInBounds_toArray, List.set_cons_zero, List.set_cons_succ]) (hCont (v142, v145, v148) _ ⟨hHeld, (by (with_reducible repeat (first | apply Kd.N_alloc | apply Kd.N_drewN | apply Kd.N_drew)); exact Kd.N_mono HO134.out (fun _ hk => ⟨hk.1.1, ⟨hk.1.2.1, ⟨hk.2, ⟨hk.1.2.2.1, ⟨hk.1.2.2.2.1, hk.1.2.2.2.2⟩⟩⟩⟩⟩)), (by (with_reducible repeat (first | apply Kd.N_alloc | apply Kd.N_drewN | apply Kd.N_drew)); exact Kd.N_mono HO137.out (fun _ hk => ⟨hk.1.1, ⟨hk.2, ⟨hk.1.2.1, ⟨hk.1.2.2.1, hk.1.2.2.2⟩⟩⟩⟩)), (by (with_reducible repeat (first | apply Kd.N_alloc | apply Kd.N_drewN | apply Kd.N_drew)); exact HO146.out), (by (with_reducible repeat (first | apply Kd.N_alloc | apply Kd.N_drewN | apply Kd.N_drew)); exact Kd.N_mono HO149.out (fun _ hk => ⟨hk.1.1, ⟨hk.1.2.1, ⟨hk.1.2.2.1, ⟨hk.2, ⟨hk.1.2.2.2.1, hk.1.2.2.2.2⟩⟩⟩⟩⟩)), (by (with_reducible repeat (first | apply Kd.V_alloc | apply Kd.V_drewN | apply Kd.V_drew)); exact Kd.V_mono HO_102002.out (fun _ hk => ⟨hk.1.1, ⟨hk.1.2.1, ⟨hk.1.2.2.1, ⟨hk.2, ⟨hk.1.2.2.2.1, ⟨hk.1.2.2.2.2.1, hk.1.2.2.2.2.2⟩⟩⟩⟩⟩⟩)), (by (with_reducible repeat (first | apply Kd.V_alloc | apply Kd.V_drewN | apply Kd.V_drew)); exact Kd.V_mono HO_103001.out (fun _ hk => ⟨hk.1.1, ⟨hk.1.2.1, ⟨hk.1.2.2.1, ⟨hk.2, ⟨hk.1.2.2.2.1, ⟨hk.1.2.2.2.2.1, hk.1.2.2.2.2.2⟩⟩⟩⟩⟩⟩)), (by (with_reducible repeat (first | refine blk_drewN ?_ _ | refine blk_drew ?_ | refine blk_alloc ?_ _)); exact BK101.out), (by (with_reducible repeat (first | refine blk_drewN ?_ _ | refine blk_drew ?_ | refine blk_alloc ?_ _)); exact BK102.out), (by repeat (first | (with_reducible first | exact HB.out | apply below_alloc | apply pw_below_drewN | apply below_drew1 | refine below_set ?_ GE101.out | refine below_set ?_ GE102.out) | exact HB.out))⟩)
               ·skip
                refine Kd.N_lit_step k47 _ 47 ?hg (N' := 100) ?hd (xs := ([(⟨1, (⟨a1_0, l1_1⟩ : Atom), (⟨#[]⟩ : ByteArray), (⟨false, (⟨#[]⟩ : ByteArray), (⟨false, (⟨#[]⟩ : ByteArray), 0⟩ : Val)⟩ : Term), (⟨false, (⟨#[]⟩ : ByteArray), (⟨false, (⟨#[]⟩ : ByteArray), 0⟩ : Val)⟩ : Term)⟩ : Liter)] : List (Liter))) (inner := [.int .i64 1, .string a1_0, .slice A1_1 l1_1.length c1_1, .string (⟨#[]⟩ : ByteArray), .bool false, .string (⟨#[]⟩ : ByteArray), .bool false, .string (⟨#[]⟩ : ByteArray), .int .i64 0, .bool false, .string (⟨#[]⟩ : ByteArray), .bool false, .string (⟨#[]⟩ : ByteArray), .int .i64 0]) (ok := (fun k_ => ((P0_2_ k_ ∨ P1_1_ k_) ∨ w.heap.size ≤ k_) ∧ some k_ ≠ (.slice Ao59 y132.length co59 : Value).ownBlock ∧ some k_ ≠ (.slice Ao60 y135.length co60 : Value).ownBlock ∧ k_ ≠ gb101 ∧ k_ ≠ gb102)) (okp := (fun k_ => ((P0_2_ k_ ∨ P1_1_ k_) ∨ w.heap.size ≤ k_) ∧ some k_ ≠ (.slice Ao59 y132.length co59 : Value).ownBlock ∧ some k_ ≠ (.slice Ao60 y135.length co60 : Value).ownBlock ∧ k_ ≠ gb101 ∧ k_ ≠ gb102)) ?hr ?hp (fun _ hk => hk) ((show ∀ k_, w62.heap.size ≤ k_ → (fun k_ => ((P0_2_ k_ ∨ P1_1_ k_) ∨ w.heap.size ≤ k_) ∧ some k_ ≠ (.slice Ao59 y132.length co59 : Value).ownBlock ∧ some k_ ≠ (.slice Ao60 y135.length co60 : Value).ownBlock ∧ k_ ≠ gb101 ∧ k_ ≠ gb102) k_ from fun k_ hk => ⟨(.inr (Nat.le_trans (below_size (by repeat (first | (with_reducible first | exact HB.out | apply below_alloc | apply pw_below_drewN | apply below_drew1 | refine below_set ?_ GE101.out | refine below_set ?_ GE102.out) | exact HB.out))) hk)), Kd.fresh' (Kd.N_lt (by (with_reducible repeat (first | apply Kd.N_alloc | apply Kd.N_drewN | apply Kd.N_drew)); exact HO134.out)) k_ hk, Kd.fresh' (Kd.N_lt (by (with_reducible repeat (first | apply Kd.N_alloc | apply Kd.N_drewN | apply Kd.N_drew)); exact HO137.out)) k_ hk, Kd.freshB (g := gb101) (o := .cells #[.string a0_0, .slice A0_1 l0_1.length c0_1, .slice A0_2 l0_2.length c0_2] 27 (0, 0)) (by (with_reducible repeat (first | refine blk_drewN ?_ _ | refine blk_drew ?_ | refine blk_alloc ?_ _)); exact BK101.out) k_ hk, Kd.freshB (g := gb102) (o := .cells #[.string a1_0, .slice A1_1 l1_1.length c1_1] 24 (0, 0)) (by (with_reducible repeat (first | refine blk_drewN ?_ _ | refine blk_drew ?_ | refine blk_alloc ?_ _)); exact BK102.out) k_ hk⟩) _ (Nat.le_refl _)) (Below.refl _ _) (Nat.le_refl _) (by simp) ?_; (case hd => rfl); (case hg => rfl); (case hr => first | (go_simp; done) | (go_simp; rfl)); (case hp => exact (Reps.front (show Kd.FK k47 _ _ (⟨1, (⟨a1_0, l1_1⟩ : Atom), (⟨#[]⟩ : ByteArray), (⟨false, (⟨#[]⟩ : ByteArray), (⟨false, (⟨#[]⟩ : ByteArray), 0⟩ : Val)⟩ : Term), (⟨false, (⟨#[]⟩ : ByteArray), (⟨false, (⟨#[]⟩ : ByteArray), 0⟩ : Val)⟩ : Term)⟩ : Liter) [.int .i64 1, .string a1_0, .slice A1_1 l1_1.length c1_1, .string (⟨#[]⟩ : ByteArray), .bool false, .string (⟨#[]⟩ : ByteArray), .bool false, .string (⟨#[]⟩ : ByteArray), .int .i64 0, .bool false, .string (⟨#[]⟩ : ByteArray), .bool false, .string (⟨#[]⟩ : ByteArray), .int .i64 0] from (k47_mkF _ _ (⟨1, (⟨a1_0, l1_1⟩ : Atom), (⟨#[]⟩ : ByteArray), (⟨false, (⟨#[]⟩ : ByteArray), (⟨false, (⟨#[]⟩ : ByteArray), 0⟩ : Val)⟩ : Term), (⟨false, (⟨#[]⟩ : ByteArray), (⟨false, (⟨#[]⟩ : ByteArray), 0⟩ : Val)⟩ : Term)⟩ : Liter) (Kd.V_reads' (Kd.V_mono (ok' := (fun k_ => ((P0_2_ k_ ∨ P1_1_ k_) ∨ w.heap.size ≤ k_) ∧ some k_ ≠ (.slice Ao59 y132.length co59 : Value).ownBlock ∧ some k_ ≠ (.slice Ao60 y135.length co60 : Value).ownBlock ∧ k_ ≠ gb101 ∧ k_ ≠ gb102)) (HO_103001.out) (fun k_ hk => ⟨hk.1.1, ⟨hk.1.2.1, ⟨hk.2, ⟨hk.1.2.2.1, hk.1.2.2.2⟩⟩⟩⟩))).2.1 (Kd.V_F (Kd.V_mono (ok' := (fun k_ => ((P0_2_ k_ ∨ P1_1_ k_) ∨ w.heap.size ≤ k_) ∧ some k_ ≠ (.slice Ao59 y132.length co59 : Value).ownBlock ∧ some k_ ≠ (.slice Ao60 y135.length co60 : Value).ownBlock ∧ k_ ≠ gb101 ∧ k_ ≠ gb102)) (HO_103001.out) (fun k_ hk => ⟨hk.1.1, ⟨hk.1.2.1, ⟨hk.2, ⟨hk.1.2.2.1, hk.1.2.2.2⟩⟩⟩⟩))))) rfl (Reps.none _ _) rfl))
                intro v148 w63 ho64 hb hg_ hnew_
                clear hg_ hnew_
                (first | rw [← Ny147.out] at ho64 | (simp only [Int.reduceToNat] at ho64; rw [← Ny147.out] at ho64))
                have n0_ := Aside0.mk (Kd.V_elder' (by (with_reducible repeat (first | apply Kd.V_alloc | apply Kd.V_drewN | apply Kd.V_drew)); exact HO_102002.out) (Kd.N_base ho64) hb)
                have n1_ := Aside0.mk (Kd.V_elder' (by (with_reducible repeat (first | apply Kd.V_alloc | apply Kd.V_drewN | apply Kd.V_drew)); exact HO_103001.out) (Kd.N_base ho64) hb)
                have n2_ := Aside0.mk (Kd.N_elder' (by (with_reducible repeat (first | apply Kd.N_alloc | apply Kd.N_drewN | apply Kd.N_drew)); exact HO134.out) (Kd.N_base ho64) hb)
                have n3_ := Aside0.mk (Kd.N_elder' (by (with_reducible repeat (first | apply Kd.N_alloc | apply Kd.N_drewN | apply Kd.N_drew)); exact HO137.out) (Kd.N_base ho64) hb)
                have n4_ := Aside0.mk (Kd.N_lower ho64 (below_size (by repeat (first | (with_reducible first | exact HB.out | apply below_alloc | apply pw_below_drewN | apply below_drew1 | refine below_set ?_ GE101.out | refine below_set ?_ GE102.out) | exact HB.out))))
                have n5_ := Aside0.mk (blk_below (g := gb101) (o := .cells #[.string a0_0, .slice A0_1 l0_1.length c0_1, .slice A0_2 l0_2.length c0_2] 27 (0, 0)) (by (with_reducible repeat (first | refine blk_drewN ?_ _ | refine blk_drew ?_ | refine blk_alloc ?_ _)); exact BK101.out) hb)
                have n6_ := Aside0.mk (blk_below (g := gb102) (o := .cells #[.string a1_0, .slice A1_1 l1_1.length c1_1] 24 (0, 0)) (by (with_reducible repeat (first | refine blk_drewN ?_ _ | refine blk_drew ?_ | refine blk_alloc ?_ _)); exact BK102.out) hb)
                have n7_ := Aside0.mk (below_step (by repeat (first | (with_reducible first | exact HB.out | apply below_alloc | apply pw_below_drewN | apply below_drew1 | refine below_set ?_ GE101.out | refine below_set ?_ GE102.out) | exact HB.out)) hb)
                clear HO_102002
                clear HO_103001
                clear HO134
                clear HO137
                clear BK101
                clear BK102
                clear HB
                have HO_102002 := n0_
                have HO_103001 := n1_
                have HO134 := n2_
                have HO137 := n3_
                have HO149 := n4_
                have BK101 := n5_
                have BK102 := n6_
                have HB := n7_
                clear n0_ n1_ n2_ n3_ n4_ n5_ n6_ n7_
                clear hb ho64
                refine hK.out _ _ ⟨(blk_cell BK101.out 0).trans rfl, (blk_cell BK101.out 1).trans rfl, (blk_cell BK101.out 2).trans rfl, (blk_cell BK102.out 0).trans rfl, (blk_cell BK102.out 1).trans rfl⟩ (fun hHeld => ?_)
                clear hK K
                refine norm_ (a' := ?_) ?_ ?_
                rotate_left
                ·show Act.put _ (some 100) _ = _
                 simp only [Act.put, List.setIfInBounds_toArray, List.set_cons_zero, List.set_cons_succ, i64_w, i32_w]
                 rfl
                refine one_ (i := 2) (N := some 94) #[tt,tt,tt,tt,tt,ff,tt,tt,tt,ff,ff,ff,ff,ff,ff,ff,ff,ff,ff] rfl rfl (one_of HT_.out (by kernel_rfl)) (by decide) (fun K hK => ?_)
                refine Kd.N_lit_step k47 _ 47 ?hg (N' := 94) ?hd (xs := ([] : List (Liter))) (inner := []) (ok := (fun k_ => ((P0_2_ k_ ∨ P1_1_ k_) ∨ w.heap.size ≤ k_) ∧ some k_ ≠ (.slice Ao59 y132.length co59 : Value).ownBlock ∧ some k_ ≠ (.slice Ao60 y135.length co60 : Value).ownBlock ∧ some k_ ≠ (v148 : Value).ownBlock ∧ k_ ≠ gb101 ∧ k_ ≠ gb102)) (okp := (fun k_ => ((P0_2_ k_ ∨ P1_1_ k_) ∨ w.heap.size ≤ k_) ∧ some k_ ≠ (.slice Ao59 y132.length co59 : Value).ownBlock ∧ some k_ ≠ (.slice Ao60 y135.length co60 : Value).ownBlock ∧ some k_ ≠ (v148 : Value).ownBlock ∧ k_ ≠ gb101 ∧ k_ ≠ gb102)) ?hr ?hp (fun _ hk => hk) ((show ∀ k_, w63.heap.size ≤ k_ → (fun k_ => ((P0_2_ k_ ∨ P1_1_ k_) ∨ w.heap.size ≤ k_) ∧ some k_ ≠ (.slice Ao59 y132.length co59 : Value).ownBlock ∧ some k_ ≠ (.slice Ao60 y135.length co60 : Value).ownBlock ∧ some k_ ≠ (v148 : Value).ownBlock ∧ k_ ≠ gb101 ∧ k_ ≠ gb102) k_ from fun k_ hk => ⟨(.inr (Nat.le_trans (below_size (by repeat (first | (with_reducible first | exact HB.out | apply below_alloc | apply pw_below_drewN | apply below_drew1 | refine below_set ?_ GE101.out | refine below_set ?_ GE102.out) | exact HB.out))) hk)), Kd.fresh' (Kd.N_lt (by (with_reducible repeat (first | apply Kd.N_alloc | apply Kd.N_drewN | apply Kd.N_drew)); exact HO134.out)) k_ hk, Kd.fresh' (Kd.N_lt (by (with_reducible repeat (first | apply Kd.N_alloc | apply Kd.N_drewN | apply Kd.N_drew)); exact HO137.out)) k_ hk, Kd.fresh' (Kd.N_lt (by (with_reducible repeat (first | apply Kd.N_alloc | apply Kd.N_drewN | apply Kd.N_drew)); exact HO149.out)) k_ hk, Kd.freshB (g := gb101) (o := .cells #[.string a0_0, .slice A0_1 l0_1.length c0_1, .slice A0_2 l0_2.length c0_2] 27 (0, 0)) (by (with_reducible repeat (first | refine blk_drewN ?_ _ | refine blk_drew ?_ | refine blk_alloc ?_ _)); exact BK101.out) k_ hk, Kd.freshB (g := gb102) (o := .cells #[.string a1_0, .slice A1_1 l1_1.length c1_1] 24 (0, 0)) (by (with_reducible repeat (first | refine blk_drewN ?_ _ | refine blk_drew ?_ | refine blk_alloc ?_ _)); exact BK102.out) k_ hk⟩) _ (Nat.le_refl _)) (Below.refl _ _) (Nat.le_refl _) (by simp) ?_; (case hd => rfl); (case hg => rfl); (case hr => first | (go_simp; done) | (go_simp; rfl)); (case hp => exact (Reps.none _ _))
                intro v142 w65 ho66 hb hg_ hnew_
                clear hg_ hnew_
                (first | rw [← Ny141.out] at ho66 | (simp only [Int.reduceToNat] at ho66; rw [← Ny141.out] at ho66))
                have n0_ := Aside0.mk (Kd.V_elder' (by (with_reducible repeat (first | apply Kd.V_alloc | apply Kd.V_drewN | apply Kd.V_drew)); exact HO_102002.out) (Kd.N_base ho66) hb)
                have n1_ := Aside0.mk (Kd.V_elder' (by (with_reducible repeat (first | apply Kd.V_alloc | apply Kd.V_drewN | apply Kd.V_drew)); exact HO_103001.out) (Kd.N_base ho66) hb)
                have n2_ := Aside0.mk (Kd.N_elder' (by (with_reducible repeat (first | apply Kd.N_alloc | apply Kd.N_drewN | apply Kd.N_drew)); exact HO134.out) (Kd.N_base ho66) hb)
                have n3_ := Aside0.mk (Kd.N_elder' (by (with_reducible repeat (first | apply Kd.N_alloc | apply Kd.N_drewN | apply Kd.N_drew)); exact HO137.out) (Kd.N_base ho66) hb)
                have n4_ := Aside0.mk (Kd.N_elder' (by (with_reducible repeat (first | apply Kd.N_alloc | apply Kd.N_drewN | apply Kd.N_drew)); exact HO149.out) (Kd.N_base ho66) hb)
                have n5_ := Aside0.mk (Kd.N_lower ho66 (below_size (by repeat (first | (with_reducible first | exact HB.out | apply below_alloc | apply pw_below_drewN | apply below_drew1 | refine below_set ?_ GE101.out | refine below_set ?_ GE102.out) | exact HB.out))))
                have n6_ := Aside0.mk (blk_below (g := gb101) (o := .cells #[.string a0_0, .slice A0_1 l0_1.length c0_1, .slice A0_2 l0_2.length c0_2] 27 (0, 0)) (by (with_reducible repeat (first | refine blk_drewN ?_ _ | refine blk_drew ?_ | refine blk_alloc ?_ _)); exact BK101.out) hb)
                have n7_ := Aside0.mk (blk_below (g := gb102) (o := .cells #[.string a1_0, .slice A1_1 l1_1.length c1_1] 24 (0, 0)) (by (with_reducible repeat (first | refine blk_drewN ?_ _ | refine blk_drew ?_ | refine blk_alloc ?_ _)); exact BK102.out) hb)
                have n8_ := Aside0.mk (below_step (by repeat (first | (with_reducible first | exact HB.out | apply below_alloc | apply pw_below_drewN | apply below_drew1 | refine below_set ?_ GE101.out | refine below_set ?_ GE102.out) | exact HB.out)) hb)
                clear HO_102002
                clear HO_103001
                clear HO134
                clear HO137
                clear HO149
                clear BK101
                clear BK102
                clear HB
                have HO_102002 := n0_
                have HO_103001 := n1_
                have HO134 := n2_
                have HO137 := n3_
                have HO149 := n4_
                have HO143 := n5_
                have BK101 := n6_
                have BK102 := n7_
                have HB := n8_
                clear n0_ n1_ n2_ n3_ n4_ n5_ n6_ n7_ n8_
                clear hb ho66
                refine hK.out _ _ ⟨(blk_cell BK101.out 0).trans rfl, (blk_cell BK101.out 1).trans rfl, (blk_cell BK101.out 2).trans rfl, (blk_cell BK102.out 0).trans rfl, (blk_cell BK102.out 1).trans rfl⟩ (fun hHeld => ?_)
                clear hK K
                refine norm_ (a' := ?_) ?_ ?_
                rotate_left
                ·show Act.put _ (some 94) _ = _
                 simp only [Act.put, List.setIfInBounds_toArray, List.set_cons_zero, List.set_cons_succ, i64_w, i32_w]
                 rfl
                refine one_ (i := 5) (N := some 97) #[tt,tt,tt,tt,tt,tt,tt,tt,tt,ff,ff,ff,ff,ff,ff,ff,ff,ff,ff] rfl rfl (one_of HT_.out (by kernel_rfl)) (by decide) (fun K hK => ?_)
                refine Kd.N_append_rows_step k47 (w0 := w) w.heap.size (by rfl) (.tmp 94) (.tmp 96) 25 47 (.agg #[(.int .i64 0), (.string ⟨#[]⟩), (.slice none 0 0), (.string ⟨#[]⟩), (.bool false), (.string ⟨#[]⟩), (.bool false), (.string ⟨#[]⟩), (.int .i64 0), (.bool false), (.string ⟨#[]⟩), (.bool false), (.string ⟨#[]⟩), (.int .i64 0)]) 176 rfl Try.underlying25 info47 rfl (by decide) (by omega) v142 y141 l0_2 _ _ _ (fun k_ => ((P0_2_ k_ ∨ P1_1_ k_) ∨ w.heap.size ≤ k_) ∧ some k_ ≠ (.slice Ao59 y132.length co59 : Value).ownBlock ∧ some k_ ≠ (.slice Ao60 y135.length co60 : Value).ownBlock ∧ some k_ ≠ (v148 : Value).ownBlock ∧ k_ ≠ gb101 ∧ k_ ≠ gb102) (fun k_ => ((fun k_ => ((P0_2_ k_ ∨ P1_1_ k_) ∨ w.heap.size ≤ k_) ∧ some k_ ≠ (.slice Ao59 y132.length co59 : Value).ownBlock ∧ some k_ ≠ (.slice Ao60 y135.length co60 : Value).ownBlock ∧ some k_ ≠ (v148 : Value).ownBlock ∧ k_ ≠ gb101 ∧ k_ ≠ gb102)) k_ ∧ some k_ ≠ (v142 : Value).ownBlock) rfl rfl ?aO ?aR (fun _ hk => hk) ?aF ?aB ?aS ?aL ?_
                (case aR => exact (by skip; exact Kd.V_F (Kd.V_mono (ok' := (fun k_ => ((fun k_ => ((P0_2_ k_ ∨ P1_1_ k_) ∨ w.heap.size ≤ k_) ∧ some k_ ≠ (.slice Ao59 y132.length co59 : Value).ownBlock ∧ some k_ ≠ (.slice Ao60 y135.length co60 : Value).ownBlock ∧ some k_ ≠ (v148 : Value).ownBlock ∧ k_ ≠ gb101 ∧ k_ ≠ gb102)) k_ ∧ some k_ ≠ (v142 : Value).ownBlock)) (HO_102002.out) (fun k_ hk => ⟨⟨hk.1.1.1.1, ⟨hk.1.1.1.2.1, ⟨hk.1.1.2, ⟨hk.1.2, ⟨hk.1.1.1.2.2.1, hk.1.1.1.2.2.2⟩⟩⟩⟩⟩, hk.2⟩))))
                (case aB => exact (by repeat (first | (with_reducible first | exact HB.out | apply below_alloc | apply pw_below_drewN | apply below_drew1 | refine below_set ?_ GE101.out | refine below_set ?_ GE102.out) | exact HB.out)))
                (case aF => exact (fun k_ hk => ⟨(.inr (Nat.le_trans (below_size (by repeat (first | (with_reducible first | exact HB.out | apply below_alloc | apply pw_below_drewN | apply below_drew1 | refine below_set ?_ GE101.out | refine below_set ?_ GE102.out) | exact HB.out))) hk)), Kd.fresh' (Kd.N_lt (by (with_reducible repeat (first | apply Kd.N_alloc | apply Kd.N_drewN | apply Kd.N_drew)); exact HO134.out)) k_ hk, Kd.fresh' (Kd.N_lt (by (with_reducible repeat (first | apply Kd.N_alloc | apply Kd.N_drewN | apply Kd.N_drew)); exact HO137.out)) k_ hk, Kd.fresh' (Kd.N_lt (by (with_reducible repeat (first | apply Kd.N_alloc | apply Kd.N_drewN | apply Kd.N_drew)); exact HO149.out)) k_ hk, Kd.freshB (g := gb101) (o := .cells #[.string a0_0, .slice A0_1 l0_1.length c0_1, .slice A0_2 l0_2.length c0_2] 27 (0, 0)) (by (with_reducible repeat (first | refine blk_drewN ?_ _ | refine blk_drew ?_ | refine blk_alloc ?_ _)); exact BK101.out) k_ hk, Kd.freshB (g := gb102) (o := .cells #[.string a1_0, .slice A1_1 l1_1.length c1_1] 24 (0, 0)) (by (with_reducible repeat (first | refine blk_drewN ?_ _ | refine blk_drew ?_ | refine blk_alloc ?_ _)); exact BK102.out) k_ hk⟩))
                (case aO => exact (by (with_reducible repeat (first | apply Kd.N_alloc | apply Kd.N_drewN | apply Kd.N_drew)); exact HO143.out))
                (case aS => exact (below_size (by repeat (first | (with_reducible first | exact HB.out | apply below_alloc | apply pw_below_drewN | apply below_drew1 | refine below_set ?_ GE101.out | refine below_set ?_ GE102.out) | exact HB.out))))
                (case aL => have := LMc42.out; omega)
                intro v145 w67 ho hb hg hat
                rw [← Ny144.out] at ho
                have n0_ := Aside0.mk (Kd.V_afterv (ok := (fun k_ => ((P0_2_ k_ ∨ P1_1_ k_) ∨ w.heap.size ≤ k_) ∧ some k_ ≠ (.slice Ao59 y132.length co59 : Value).ownBlock ∧ some k_ ≠ (.slice Ao60 y135.length co60 : Value).ownBlock ∧ some k_ ≠ (v148 : Value).ownBlock ∧ k_ ≠ gb101 ∧ k_ ≠ gb102)) (by (with_reducible repeat (first | apply Kd.V_alloc | apply Kd.V_drewN | apply Kd.V_drew)); exact Kd.V_mono HO_102002.out (fun _ hk => ⟨⟨hk.1.1.1.1, ⟨hk.1.1.1.2.1, ⟨hk.1.1.2, ⟨hk.1.2, ⟨hk.1.1.1.2.2.1, hk.1.1.1.2.2.2⟩⟩⟩⟩⟩, hk.2⟩)) hg hat)
                have n1_ := Aside0.mk (Kd.V_afterv (ok := (fun k_ => ((P0_2_ k_ ∨ P1_1_ k_) ∨ w.heap.size ≤ k_) ∧ some k_ ≠ (.slice Ao59 y132.length co59 : Value).ownBlock ∧ some k_ ≠ (.slice Ao60 y135.length co60 : Value).ownBlock ∧ some k_ ≠ (v148 : Value).ownBlock ∧ k_ ≠ gb101 ∧ k_ ≠ gb102)) (by (with_reducible repeat (first | apply Kd.V_alloc | apply Kd.V_drewN | apply Kd.V_drew)); exact Kd.V_mono HO_103001.out (fun _ hk => ⟨⟨hk.1.1.1.1, ⟨hk.1.1.1.2.1, ⟨hk.1.1.2, ⟨hk.1.2, ⟨hk.1.1.1.2.2.1, hk.1.1.1.2.2.2⟩⟩⟩⟩⟩, hk.2⟩)) hg hat)
                have n2_ := Aside0.mk (blk_grown (g := gb101) (o := .cells #[.string a0_0, .slice A0_1 l0_1.length c0_1, .slice A0_2 l0_2.length c0_2] 27 (0, 0)) (by (with_reducible repeat (first | refine blk_drewN ?_ _ | refine blk_drew ?_ | refine blk_alloc ?_ _)); exact BK101.out) hg (Kd.N_ne HO143.out BK101.out (by decide)))
                have n3_ := Aside0.mk (blk_grown (g := gb102) (o := .cells #[.string a1_0, .slice A1_1 l1_1.length c1_1] 24 (0, 0)) (by (with_reducible repeat (first | refine blk_drewN ?_ _ | refine blk_drew ?_ | refine blk_alloc ?_ _)); exact BK102.out) hg (Kd.N_ne HO143.out BK102.out (by decide)))
                have n4_ := Aside0.mk (Kd.N_afterv (ok := (fun k_ => ((P0_2_ k_ ∨ P1_1_ k_) ∨ w.heap.size ≤ k_) ∧ some k_ ≠ (.slice Ao60 y135.length co60 : Value).ownBlock ∧ some k_ ≠ (v148 : Value).ownBlock ∧ k_ ≠ gb101 ∧ k_ ≠ gb102)) (by (with_reducible repeat (first | apply Kd.N_alloc | apply Kd.N_drewN | apply Kd.N_drew)); exact Kd.N_mono HO134.out (fun _ hk => ⟨⟨hk.1.1.1.1, ⟨hk.1.1.2, ⟨hk.1.2, ⟨hk.1.1.1.2.1, hk.1.1.1.2.2⟩⟩⟩⟩, hk.2⟩)) hg hat)
                have n5_ := Aside0.mk (Kd.N_afterv (ok := (fun k_ => ((P0_2_ k_ ∨ P1_1_ k_) ∨ w.heap.size ≤ k_) ∧ some k_ ≠ (v148 : Value).ownBlock ∧ k_ ≠ gb101 ∧ k_ ≠ gb102)) (by (with_reducible repeat (first | apply Kd.N_alloc | apply Kd.N_drewN | apply Kd.N_drew)); exact Kd.N_mono HO137.out (fun _ hk => ⟨⟨hk.1.1.1, ⟨hk.1.2, ⟨hk.1.1.2.1, hk.1.1.2.2⟩⟩⟩, hk.2⟩)) hg hat)
                have n6_ := Aside0.mk (Kd.N_afterv (ok := (fun k_ => ((P0_2_ k_ ∨ P1_1_ k_) ∨ w.heap.size ≤ k_) ∧ some k_ ≠ (.slice Ao59 y132.length co59 : Value).ownBlock ∧ some k_ ≠ (.slice Ao60 y135.length co60 : Value).ownBlock ∧ k_ ≠ gb101 ∧ k_ ≠ gb102)) (by (with_reducible repeat (first | apply Kd.N_alloc | apply Kd.N_drewN | apply Kd.N_drew)); exact HO149.out) hg hat)
                have n7_ := Aside0.mk (hb)
                have n8_ := Aside0.mk (ho)
                clear HO_102002
                clear HO_103001
                clear BK101
                clear BK102
                clear HO134
                clear HO137
                clear HO149
                clear HB
                clear HO143
                have HO_102002 := n0_
                have HO_103001 := n1_
                have BK101 := n2_
                have BK102 := n3_
                have HO134 := n4_
                have HO137 := n5_
                have HO149 := n6_
                have HB := n7_
                have HO146 := n8_
                clear n0_ n1_ n2_ n3_ n4_ n5_ n6_ n7_ n8_
                clear ho hb hg hat
                refine hK.out _ _ ⟨(blk_cell BK101.out 0).trans rfl, (blk_cell BK101.out 1).trans rfl, (blk_cell BK101.out 2).trans rfl, (blk_cell BK102.out 0).trans rfl, (blk_cell BK102.out 1).trans rfl⟩ (fun hHeld => ?_)
                clear hK K
                refine norm_ (a' := ?_) ?_ ?_
                rotate_left
                ·show Act.put _ (some 97) _ = _
                 simp only [Act.put, List.setIfInBounds_toArray, List.set_cons_zero, List.set_cons_succ, i64_w, i32_w]
                 rfl
                exact norm_ (by simp only [putAll, Act.put, List.setIfInBounds_toArray, List.set_cons_zero, List.set_cons_succ]) (hCont (v142, v145, v148) _ ⟨hHeld, (by (with_reducible repeat (first | apply Kd.N_alloc | apply Kd.N_drewN | apply Kd.N_drew)); exact Kd.N_mono HO134.out (fun _ hk => ⟨hk.1.1, ⟨hk.1.2.1, ⟨hk.2, ⟨hk.1.2.2.1, ⟨hk.1.2.2.2.1, hk.1.2.2.2.2⟩⟩⟩⟩⟩)), (by (with_reducible repeat (first | apply Kd.N_alloc | apply Kd.N_drewN | apply Kd.N_drew)); exact Kd.N_mono HO137.out (fun _ hk => ⟨hk.1.1, ⟨hk.2, ⟨hk.1.2.1, ⟨hk.1.2.2.1, hk.1.2.2.2⟩⟩⟩⟩)), (by (with_reducible repeat (first | apply Kd.N_alloc | apply Kd.N_drewN | apply Kd.N_drew)); exact HO146.out), (by (with_reducible repeat (first | apply Kd.N_alloc | apply Kd.N_drewN | apply Kd.N_drew)); exact Kd.N_mono HO149.out (fun _ hk => ⟨hk.1.1, ⟨hk.1.2.1, ⟨hk.1.2.2.1, ⟨hk.2, ⟨hk.1.2.2.2.1, hk.1.2.2.2.2⟩⟩⟩⟩⟩)), (by (with_reducible repeat (first | apply Kd.V_alloc | apply Kd.V_drewN | apply Kd.V_drew)); exact Kd.V_mono HO_102002.out (fun _ hk => ⟨hk.1.1, ⟨hk.1.2.1, ⟨hk.1.2.2.1, ⟨hk.2, ⟨hk.1.2.2.2.1, ⟨hk.1.2.2.2.2.1, hk.1.2.2.2.2.2⟩⟩⟩⟩⟩⟩)), (by (with_reducible repeat (first | apply Kd.V_alloc | apply Kd.V_drewN | apply Kd.V_drew)); exact Kd.V_mono HO_103001.out (fun _ hk => ⟨hk.1.1, ⟨hk.1.2.1, ⟨hk.1.2.2.1, ⟨hk.2, ⟨hk.1.2.2.2.1, ⟨hk.1.2.2.2.2.1, hk.1.2.2.2.2.2⟩⟩⟩⟩⟩⟩)), (by (with_reducible repeat (first | refine blk_drewN ?_ _ | refine blk_drew ?_ | refine blk_alloc ?_ _)); exact BK101.out), (by (with_reducible repeat (first | refine blk_drewN ?_ _ | refine blk_drew ?_ | refine blk_alloc ?_ _)); exact BK102.out), (by repeat (first | (with_reducible first | exact HB.out | apply below_alloc | apply pw_below_drewN | apply below_drew1 | refine below_set ?_ GE101.out | refine below_set ?_ GE102.out) | exact HB.out))⟩)
              rintro ⟨v142, v145, v148⟩ w68 ⟨hS_, h0_, h1_, h2_, h3_, h4_, h5_, h6_, h7_, h8_⟩
              have n0_ : Aside0 (Kd.N k47 47 w68 w.heap.size (fun k_ => ((P0_2_ k_ ∨ P1_1_ k_) ∨ w.heap.size ≤ k_) ∧ some k_ ≠ (.slice Ao60 y135.length co60 : Value).ownBlock ∧ some k_ ≠ (v145 : Value).ownBlock ∧ some k_ ≠ (v148 : Value).ownBlock ∧ k_ ≠ gb101 ∧ k_ ≠ gb102) (.slice Ao59 y132.length co59) y132) := ⟨h0_⟩
              have n1_ : Aside0 (Kd.N k47 47 w68 w.heap.size (fun k_ => ((P0_2_ k_ ∨ P1_1_ k_) ∨ w.heap.size ≤ k_) ∧ some k_ ≠ (v145 : Value).ownBlock ∧ some k_ ≠ (v148 : Value).ownBlock ∧ k_ ≠ gb101 ∧ k_ ≠ gb102) (.slice Ao60 y135.length co60) y135) := ⟨h1_⟩
              have n2_ : Aside0 (Kd.N k47 47 w68 w.heap.size (fun k_ => ((P0_2_ k_ ∨ P1_1_ k_) ∨ w.heap.size ≤ k_) ∧ some k_ ≠ (.slice Ao59 y132.length co59 : Value).ownBlock ∧ some k_ ≠ (.slice Ao60 y135.length co60 : Value).ownBlock ∧ some k_ ≠ (v148 : Value).ownBlock ∧ k_ ≠ gb101 ∧ k_ ≠ gb102) v145 y144) := ⟨h2_⟩
              have n3_ : Aside0 (Kd.N k47 47 w68 w.heap.size (fun k_ => ((P0_2_ k_ ∨ P1_1_ k_) ∨ w.heap.size ≤ k_) ∧ some k_ ≠ (.slice Ao59 y132.length co59 : Value).ownBlock ∧ some k_ ≠ (.slice Ao60 y135.length co60 : Value).ownBlock ∧ some k_ ≠ (v145 : Value).ownBlock ∧ k_ ≠ gb101 ∧ k_ ≠ gb102) v148 y147) := ⟨h3_⟩
              have n4_ : Aside0 (Kd.V k47 47 w68 w.heap.size (fun k_ => ((P0_2_ k_ ∨ P1_1_ k_) ∨ w.heap.size ≤ k_) ∧ some k_ ≠ (.slice Ao59 y132.length co59 : Value).ownBlock ∧ some k_ ≠ (.slice Ao60 y135.length co60 : Value).ownBlock ∧ some k_ ≠ (v145 : Value).ownBlock ∧ some k_ ≠ (v148 : Value).ownBlock ∧ k_ ≠ gb101 ∧ k_ ≠ gb102) (.slice A0_2 l0_2.length c0_2) l0_2) := ⟨h4_⟩
              have n5_ : Aside0 (Kd.V k45 45 w68 w.heap.size (fun k_ => ((P0_2_ k_ ∨ P1_1_ k_) ∨ w.heap.size ≤ k_) ∧ some k_ ≠ (.slice Ao59 y132.length co59 : Value).ownBlock ∧ some k_ ≠ (.slice Ao60 y135.length co60 : Value).ownBlock ∧ some k_ ≠ (v145 : Value).ownBlock ∧ some k_ ≠ (v148 : Value).ownBlock ∧ k_ ≠ gb101 ∧ k_ ≠ gb102) (.slice A1_1 l1_1.length c1_1) l1_1) := ⟨h5_⟩
              have n6_ : Aside0 (w68.heap[gb101]? = some (.cells #[.string a0_0, .slice A0_1 l0_1.length c0_1, .slice A0_2 l0_2.length c0_2] 27 (0, 0))) := ⟨h6_⟩
              have n7_ : Aside0 (w68.heap[gb102]? = some (.cells #[.string a1_0, .slice A1_1 l1_1.length c1_1] 24 (0, 0))) := ⟨h7_⟩
              have n8_ : Aside0 (Below w.heap.size w w68) := ⟨h8_⟩
              clear HO_102002
              clear HO_103001
              clear HO134
              clear HO137
              clear BK101
              clear BK102
              clear HB
              clear h0_ h1_ h2_ h3_ h4_ h5_ h6_ h7_ h8_
              have HO134 := n0_
              have HO137 := n1_
              have HO146 := n2_
              have HO149 := n3_
              have HO_102002 := n4_
              have HO_103001 := n5_
              have BK101 := n6_
              have BK102 := n7_
              have HB := n8_
              clear n0_ n1_ n2_ n3_ n4_ n5_ n6_ n7_ n8_
              have hHeld : w68.cell? ⟨gb101, 0, none⟩ = some (.string a0_0) ∧ w68.cell? ⟨gb101, 1, none⟩ = some (.slice A0_1 l0_1.length c0_1) ∧ w68.cell? ⟨gb101, 2, none⟩ = some (.slice A0_2 l0_2.length c0_2) ∧ w68.cell? ⟨gb102, 0, none⟩ = some (.string a1_0) ∧ w68.cell? ⟨gb102, 1, none⟩ = some (.slice A1_1 l1_1.length c1_1) := hS_
              obtain ⟨Ao70, co70, eo70⟩ := Kd.N_slice HO149.out
              (first | subst eo70 | (injection eo70 with f1_ f2_ f3_; have f4_ := f1_.symm; have f5_ := f3_.symm; clear f1_ f2_ f3_; subst f4_; subst f5_))
              refine norm_ (a' := ?_) ?_ ?_
              rotate_left
              ·simp only [putAll, Act.put, List.setIfInBounds_toArray, List.set_cons_zero, List.set_cons_succ]
               rfl
              refine one_ (i := 9) (N := some 101) #[tt,tt,tt,tt,tt,tt,tt,tt,tt,tt,ff,ff,ff,ff,ff,ff,ff,ff,ff] rfl rfl (one_of HT_.out (by kernel_rfl)) (by decide) (fun K hK => ?_)
              refine Kd.N_append_rows_step k47 (w0 := w) w.heap.size (by rfl) (.tmp 97) (.tmp 100) 25 47 (.agg #[(.int .i64 0), (.string ⟨#[]⟩), (.slice none 0 0), (.string ⟨#[]⟩), (.bool false), (.string ⟨#[]⟩), (.bool false), (.string ⟨#[]⟩), (.int .i64 0), (.bool false), (.string ⟨#[]⟩), (.bool false), (.string ⟨#[]⟩), (.int .i64 0)]) 176 rfl Try.underlying25 info47 rfl (by decide) (by omega) v145 y144 y147 _ _ _ (fun k_ => ((P0_2_ k_ ∨ P1_1_ k_) ∨ w.heap.size ≤ k_) ∧ some k_ ≠ (.slice Ao59 y132.length co59 : Value).ownBlock ∧ some k_ ≠ (.slice Ao60 y135.length co60 : Value).ownBlock ∧ k_ ≠ gb101 ∧ k_ ≠ gb102) (fun k_ => ((fun k_ => ((P0_2_ k_ ∨ P1_1_ k_) ∨ w.heap.size ≤ k_) ∧ some k_ ≠ (.slice Ao59 y132.length co59 : Value).ownBlock ∧ some k_ ≠ (.slice Ao60 y135.length co60 : Value).ownBlock ∧ k_ ≠ gb101 ∧ k_ ≠ gb102)) k_ ∧ some k_ ≠ (v145 : Value).ownBlock) rfl rfl ?aO ?aR (fun _ hk => hk) ?aF ?aB ?aS ?aL ?_
              (case aR => exact (by skip; exact Kd.N_F (Kd.N_mono (ok' := (fun k_ => ((fun k_ => ((P0_2_ k_ ∨ P1_1_ k_) ∨ w.heap.size ≤ k_) ∧ some k_ ≠ (.slice Ao59 y132.length co59 : Value).ownBlock ∧ some k_ ≠ (.slice Ao60 y135.length co60 : Value).ownBlock ∧ k_ ≠ gb101 ∧ k_ ≠ gb102)) k_ ∧ some k_ ≠ (v145 : Value).ownBlock)) (HO149.out) (fun k_ hk => ⟨⟨hk.1, ⟨hk.2.1, ⟨hk.2.2.1, ⟨hk.2.2.2.2.1, hk.2.2.2.2.2⟩⟩⟩⟩, hk.2.2.2.1⟩))))
              (case aB => exact (by repeat (first | (with_reducible first | exact HB.out | apply below_alloc | apply pw_below_drewN | apply below_drew1 | refine below_set ?_ GE101.out | refine below_set ?_ GE102.out) | exact HB.out)))
              (case aF => exact (fun k_ hk => ⟨(.inr (Nat.le_trans (below_size (by repeat (first | (with_reducible first | exact HB.out | apply below_alloc | apply pw_below_drewN | apply below_drew1 | refine below_set ?_ GE101.out | refine below_set ?_ GE102.out) | exact HB.out))) hk)), Kd.fresh' (Kd.N_lt (by (with_reducible repeat (first | apply Kd.N_alloc | apply Kd.N_drewN | apply Kd.N_drew)); exact HO134.out)) k_ hk, Kd.fresh' (Kd.N_lt (by (with_reducible repeat (first | apply Kd.N_alloc | apply Kd.N_drewN | apply Kd.N_drew)); exact HO137.out)) k_ hk, Kd.freshB (g := gb101) (o := .cells #[.string a0_0, .slice A0_1 l0_1.length c0_1, .slice A0_2 l0_2.length c0_2] 27 (0, 0)) (by (with_reducible repeat (first | refine blk_drewN ?_ _ | refine blk_drew ?_ | refine blk_alloc ?_ _)); exact BK101.out) k_ hk, Kd.freshB (g := gb102) (o := .cells #[.string a1_0, .slice A1_1 l1_1.length c1_1] 24 (0, 0)) (by (with_reducible repeat (first | refine blk_drewN ?_ _ | refine blk_drew ?_ | refine blk_alloc ?_ _)); exact BK102.out) k_ hk⟩))
              (case aO => exact (by (with_reducible repeat (first | apply Kd.N_alloc | apply Kd.N_drewN | apply Kd.N_drew)); exact Kd.N_mono HO146.out (fun _ hk => ⟨hk.1, ⟨hk.2.1, ⟨hk.2.2.1, ⟨hk.2.2.2.2.1, hk.2.2.2.2.2⟩⟩⟩⟩)))
              (case aS => exact (below_size (by repeat (first | (with_reducible first | exact HB.out | apply below_alloc | apply pw_below_drewN | apply below_drew1 | refine below_set ?_ GE101.out | refine below_set ?_ GE102.out) | exact HB.out))))
              (case aL => have := LMc43.out; omega)
              intro v151 w69 ho hb hg hat
              rw [← Ny150.out] at ho
              have n0_ := Aside0.mk (Kd.V_afterv (ok := (fun k_ => ((P0_2_ k_ ∨ P1_1_ k_) ∨ w.heap.size ≤ k_) ∧ some k_ ≠ (.slice Ao59 y132.length co59 : Value).ownBlock ∧ some k_ ≠ (.slice Ao60 y135.length co60 : Value).ownBlock ∧ some k_ ≠ (.slice Ao70 y147.length co70 : Value).ownBlock ∧ k_ ≠ gb101 ∧ k_ ≠ gb102)) (by (with_reducible repeat (first | apply Kd.V_alloc | apply Kd.V_drewN | apply Kd.V_drew)); exact Kd.V_mono HO_102002.out (fun _ hk => ⟨⟨hk.1, ⟨hk.2.1, ⟨hk.2.2.1, ⟨hk.2.2.2.2.1, ⟨hk.2.2.2.2.2.1, hk.2.2.2.2.2.2⟩⟩⟩⟩⟩, hk.2.2.2.1⟩)) hg hat)
              have n1_ := Aside0.mk (Kd.V_afterv (ok := (fun k_ => ((P0_2_ k_ ∨ P1_1_ k_) ∨ w.heap.size ≤ k_) ∧ some k_ ≠ (.slice Ao59 y132.length co59 : Value).ownBlock ∧ some k_ ≠ (.slice Ao60 y135.length co60 : Value).ownBlock ∧ some k_ ≠ (.slice Ao70 y147.length co70 : Value).ownBlock ∧ k_ ≠ gb101 ∧ k_ ≠ gb102)) (by (with_reducible repeat (first | apply Kd.V_alloc | apply Kd.V_drewN | apply Kd.V_drew)); exact Kd.V_mono HO_103001.out (fun _ hk => ⟨⟨hk.1, ⟨hk.2.1, ⟨hk.2.2.1, ⟨hk.2.2.2.2.1, ⟨hk.2.2.2.2.2.1, hk.2.2.2.2.2.2⟩⟩⟩⟩⟩, hk.2.2.2.1⟩)) hg hat)
              have n2_ := Aside0.mk (blk_grown (g := gb101) (o := .cells #[.string a0_0, .slice A0_1 l0_1.length c0_1, .slice A0_2 l0_2.length c0_2] 27 (0, 0)) (by (with_reducible repeat (first | refine blk_drewN ?_ _ | refine blk_drew ?_ | refine blk_alloc ?_ _)); exact BK101.out) hg (Kd.N_ne HO146.out BK101.out (by decide)))
              have n3_ := Aside0.mk (blk_grown (g := gb102) (o := .cells #[.string a1_0, .slice A1_1 l1_1.length c1_1] 24 (0, 0)) (by (with_reducible repeat (first | refine blk_drewN ?_ _ | refine blk_drew ?_ | refine blk_alloc ?_ _)); exact BK102.out) hg (Kd.N_ne HO146.out BK102.out (by decide)))
              have n4_ := Aside0.mk (Kd.N_afterv (ok := (fun k_ => ((P0_2_ k_ ∨ P1_1_ k_) ∨ w.heap.size ≤ k_) ∧ some k_ ≠ (.slice Ao60 y135.length co60 : Value).ownBlock ∧ some k_ ≠ (.slice Ao70 y147.length co70 : Value).ownBlock ∧ k_ ≠ gb101 ∧ k_ ≠ gb102)) (by (with_reducible repeat (first | apply Kd.N_alloc | apply Kd.N_drewN | apply Kd.N_drew)); exact Kd.N_mono HO134.out (fun _ hk => ⟨⟨hk.1, ⟨hk.2.1, ⟨hk.2.2.2.1, ⟨hk.2.2.2.2.1, hk.2.2.2.2.2⟩⟩⟩⟩, hk.2.2.1⟩)) hg hat)
              have n5_ := Aside0.mk (Kd.N_afterv (ok := (fun k_ => ((P0_2_ k_ ∨ P1_1_ k_) ∨ w.heap.size ≤ k_) ∧ some k_ ≠ (.slice Ao70 y147.length co70 : Value).ownBlock ∧ k_ ≠ gb101 ∧ k_ ≠ gb102)) (by (with_reducible repeat (first | apply Kd.N_alloc | apply Kd.N_drewN | apply Kd.N_drew)); exact Kd.N_mono HO137.out (fun _ hk => ⟨⟨hk.1, ⟨hk.2.2.1, ⟨hk.2.2.2.1, hk.2.2.2.2⟩⟩⟩, hk.2.1⟩)) hg hat)
              have n6_ := Aside0.mk (Kd.N_afterv (ok := (fun k_ => ((P0_2_ k_ ∨ P1_1_ k_) ∨ w.heap.size ≤ k_) ∧ some k_ ≠ (.slice Ao59 y132.length co59 : Value).ownBlock ∧ some k_ ≠ (.slice Ao60 y135.length co60 : Value).ownBlock ∧ k_ ≠ gb101 ∧ k_ ≠ gb102)) (by (with_reducible repeat (first | apply Kd.N_alloc | apply Kd.N_drewN | apply Kd.N_drew)); exact Kd.N_mono HO149.out (fun _ hk => ⟨⟨hk.1, ⟨hk.2.1, ⟨hk.2.2.1, ⟨hk.2.2.2.2.1, hk.2.2.2.2.2⟩⟩⟩⟩, hk.2.2.2.1⟩)) hg hat)
              have n7_ := Aside0.mk (hb)
              have n8_ := Aside0.mk (ho)
              clear HO_102002
              clear HO_103001
              clear BK101
              clear BK102
              clear HO134
              clear HO137
              clear HO149
              clear HB
              clear HO146
              have HO_102002 := n0_
              have HO_103001 := n1_
              have BK101 := n2_
              have BK102 := n3_
              have HO134 := n4_
              have HO137 := n5_
              have HO149 := n6_
              have HB := n7_
              have HO152 := n8_
              clear n0_ n1_ n2_ n3_ n4_ n5_ n6_ n7_ n8_
              clear ho hb hg hat
              obtain ⟨Ao71, co71, eo71⟩ := Kd.N_slice HO152.out
              (first | subst eo71 | (injection eo71 with f1_ f2_ f3_; have f4_ := f1_.symm; have f5_ := f3_.symm; clear f1_ f2_ f3_; subst f4_; subst f5_))
              refine hK.out _ _ ⟨(blk_cell BK101.out 0).trans rfl, (blk_cell BK101.out 1).trans rfl, (blk_cell BK101.out 2).trans rfl, (blk_cell BK102.out 0).trans rfl, (blk_cell BK102.out 1).trans rfl⟩ (fun hHeld => ?_)
              clear hK K
              refine norm_ (a' := ?_) ?_ ?_
              rotate_left
              ·show Act.put _ (some 101) _ = _
               simp only [Act.put, List.setIfInBounds_toArray, List.set_cons_zero, List.set_cons_succ, i64_w, i32_w]
               rfl
              refine pure_ (i := 10) (N := some 102) (v := ?_) (a' := ?_) #[tt,tt,tt,tt,tt,tt,tt,tt,tt,tt,tt,ff,ff,ff,ff,ff,ff,ff,ff] rfl rfl (any_of HT_.out (by kernel_rfl)) (fun _ _ _ h => h) (Or.inl ⟨by rfl, ?_⟩) ?_ ?_
              rotate_left
              ·intro w'
               go_simp
               with_reducible rfl
              rotate_left
              ·simp only [Act.put, List.setIfInBounds_toArray, List.set_cons_zero, List.set_cons_succ, i64_w, i32_w]
               rfl
              refine one_ (i := 11) (N := some 103) #[tt,tt,tt,tt,tt,tt,tt,tt,tt,tt,tt,tt,ff,ff,ff,ff,ff,ff,ff] rfl rfl (one_of HT_.out (by kernel_rfl)) (by decide) (fun K hK => ?_)
              refine goes_ Try.func28 (by kernel_rfl) rfl #[.agg #[.string a0_0, .slice A0_1 l0_1.length c0_1, .slice Ao71 y150.length co71]] (by rfl) rfl rfl (by (try simp only [List.map_toArray, List.map_cons, List.map_nil]); first | done | rfl | (simp only [List.length_drop, List.length_take]; rfl)) ?_
              with_reducible refine (safe_Check.calls k3 a0_0 _ _ l0_1 _ _ y150 t153 t154 t155 _ ?side1 ?side2 ?side3 ?side4 A44.out).mono ?_
              (case side1 => repeat (first | exact (Kd.C_below HR0_1.out HB.out) | (with_reducible refine Kd.C_alloc ?_ _) | (with_reducible refine Kd.C_drewN ?_ _) | (with_reducible refine Kd.C_drew ?_)))
              (case side2 => exact HC0_1.out)
              (case side3 => repeat (first | exact (Kd.N_reads' HO152.out).2.2 | (with_reducible refine Kd.C_alloc ?_ _) | (with_reducible refine Kd.C_drewN ?_ _) | (with_reducible refine Kd.C_drew ?_)))
              (case side4 => exact (Kd.N_reads' HO152.out).2.1)
              rintro e w72 ⟨rfl, hb⟩
              refine ⟨_, rfl, ?_⟩
              have n0_ := Aside0.mk (Kd.V_below (by (with_reducible repeat (first | apply Kd.V_alloc | apply Kd.V_drewN | apply Kd.V_drew)); exact HO_102002.out) hb)
              have n1_ := Aside0.mk (Kd.V_below (by (with_reducible repeat (first | apply Kd.V_alloc | apply Kd.V_drewN | apply Kd.V_drew)); exact HO_103001.out) hb)
              have n2_ := Aside0.mk (Kd.N_below (by (with_reducible repeat (first | apply Kd.N_alloc | apply Kd.N_drewN | apply Kd.N_drew)); exact HO134.out) hb)
              have n3_ := Aside0.mk (Kd.N_below (by (with_reducible repeat (first | apply Kd.N_alloc | apply Kd.N_drewN | apply Kd.N_drew)); exact HO137.out) hb)
              have n4_ := Aside0.mk (Kd.N_below (by (with_reducible repeat (first | apply Kd.N_alloc | apply Kd.N_drewN | apply Kd.N_drew)); exact HO149.out) hb)
              have n5_ := Aside0.mk (Kd.N_below (by (with_reducible repeat (first | apply Kd.N_alloc | apply Kd.N_drewN | apply Kd.N_drew)); exact HO152.out) hb)
              have n6_ := Aside0.mk (blk_below (g := gb101) (o := .cells #[.string a0_0, .slice A0_1 l0_1.length c0_1, .slice A0_2 l0_2.length c0_2] 27 (0, 0)) (by (with_reducible repeat (first | refine blk_drewN ?_ _ | refine blk_drew ?_ | refine blk_alloc ?_ _)); exact BK101.out) hb)
              have n7_ := Aside0.mk (blk_below (g := gb102) (o := .cells #[.string a1_0, .slice A1_1 l1_1.length c1_1] 24 (0, 0)) (by (with_reducible repeat (first | refine blk_drewN ?_ _ | refine blk_drew ?_ | refine blk_alloc ?_ _)); exact BK102.out) hb)
              have n8_ := Aside0.mk (below_step (by repeat (first | (with_reducible first | exact HB.out | apply below_alloc | apply pw_below_drewN | apply below_drew1 | refine below_set ?_ GE101.out | refine below_set ?_ GE102.out) | exact HB.out)) hb)
              clear HO_102002
              clear HO_103001
              clear HO134
              clear HO137
              clear HO149
              clear HO152
              clear BK101
              clear BK102
              clear HB
              have HO_102002 := n0_
              have HO_103001 := n1_
              have HO134 := n2_
              have HO137 := n3_
              have HO149 := n4_
              have HO152 := n5_
              have BK101 := n6_
              have BK102 := n7_
              have HB := n8_
              clear n0_ n1_ n2_ n3_ n4_ n5_ n6_ n7_ n8_
              (try clear hb)
              (try clear hb2)
              (try clear hk)
              (try clear hi)
              refine hK.out _ _ ⟨(blk_cell BK101.out 0).trans rfl, (blk_cell BK101.out 1).trans rfl, (blk_cell BK101.out 2).trans rfl, (blk_cell BK102.out 0).trans rfl, (blk_cell BK102.out 1).trans rfl⟩ (fun hHeld => ?_)
              clear hK K
              refine norm_ (a' := ?_) ?_ ?_
              rotate_left
              ·show Act.put _ (some 103) _ = _
               simp only [Act.put, List.setIfInBounds_toArray, List.set_cons_zero, List.set_cons_succ, i64_w, i32_w]
               rfl
              refine pure_ (i := 12) (N := some 91) (v := ?_) (a' := ?_) #[tt,tt,tt,tt,tt,tt,tt,tt,tt,tt,tt,tt,tt,ff,ff,ff,ff,ff,ff] rfl rfl (any_of HT_.out (by kernel_rfl)) (fun _ _ _ h => h) (Or.inl ⟨by rfl, ?_⟩) ?_ ?_
              rotate_left
              ·intro w'
               go_simp
               with_reducible rfl
              rotate_left
              ·simp only [Act.put, List.setIfInBounds_toArray, List.set_cons_zero, List.set_cons_succ, i64_w, i32_w]
               rfl
              refine pure_ (i := 13) (N := some 104) (v := ?_) (a' := ?_) #[tt,tt,tt,tt,tt,tt,tt,tt,tt,tt,tt,tt,tt,tt,ff,ff,ff,ff,ff] rfl rfl (any_of HT_.out (by kernel_rfl)) (fun _ _ _ h => h) (Or.inl ⟨by rfl, ?_⟩) ?_ ?_
              rotate_left
              ·intro w'
               go_simp
               with_reducible rfl
              rotate_left
              ·simp only [Act.put, List.setIfInBounds_toArray, List.set_cons_zero, List.set_cons_succ, i64_w, i32_w]
               rfl
              refine pure_ (i := 14) (N := some 105) (v := ?_) (a' := ?_) #[tt,tt,tt,tt,tt,tt,tt,tt,tt,tt,tt,tt,tt,tt,tt,ff,ff,ff,ff] rfl rfl (any_of HT_.out (by kernel_rfl)) (fun _ _ _ h => h) (Or.inl ⟨by rfl, ?_⟩) ?_ ?_
              rotate_left
              ·intro w'
               go_simp
               with_reducible rfl
              rotate_left
              ·simp only [Act.put, List.setIfInBounds_toArray, List.set_cons_zero, List.set_cons_succ, i64_w, i32_w]
               rfl
              refine pure_ (i := 15) (N := some 106) (v := ?_) (a' := ?_) #[tt,tt,tt,tt,tt,tt,tt,tt,tt,tt,tt,tt,tt,tt,tt,tt,ff,ff,ff] rfl rfl (any_of HT_.out (by kernel_rfl)) (fun _ _ _ h => h) (Or.inl ⟨by rfl, ?_⟩) ?_ ?_
              rotate_left
              ·intro w'
               go_simp
               with_reducible rfl
              rotate_left
              ·simp only [Act.put, List.setIfInBounds_toArray, List.set_cons_zero, List.set_cons_succ, i64_w, i32_w]
               rfl
              refine pure_ (i := 16) (N := some 14) (v := ?_) (a' := ?_) #[tt,tt,tt,tt,tt,tt,tt,tt,tt,tt,tt,tt,tt,tt,tt,tt,tt,ff,ff] rfl rfl (any_of HT_.out (by kernel_rfl)) (fun _ _ _ h => h) (Or.inl ⟨by rfl, ?_⟩) ?_ ?_
              rotate_left
              ·intro w'
               go_simp
               with_reducible rfl
              rotate_left
              ·simp only [Act.put, List.setIfInBounds_toArray, List.set_cons_zero, List.set_cons_succ, i64_w, i32_w]
               rfl
              refine pure_ (i := 17) (N := some 15) (v := ?_) (a' := ?_) #[tt,tt,tt,tt,tt,tt,tt,tt,tt,tt,tt,tt,tt,tt,tt,tt,tt,tt,ff] rfl rfl (any_of HT_.out (by kernel_rfl)) (fun _ _ _ h => h) (Or.inl ⟨by rfl, ?_⟩) ?_ ?_
              rotate_left
              ·intro w'
               go_simp
               with_reducible rfl
              rotate_left
              ·simp only [Act.put, List.setIfInBounds_toArray, List.set_cons_zero, List.set_cons_succ, i64_w, i32_w]
               rfl
              refine pure_ (i := 18) (N := some 16) (v := ?_) (a' := ?_) #[tt,tt,tt,tt,tt,tt,tt,tt,tt,tt,tt,tt,tt,tt,tt,tt,tt,tt,tt] rfl rfl (any_of HT_.out (by kernel_rfl)) (fun _ _ _ h => h) (Or.inl ⟨by rfl, ?_⟩) ?_ ?_
              rotate_left
              ·intro w'
               go_simp
               with_reducible rfl
              rotate_left
              ·simp only [Act.put, List.setIfInBounds_toArray, List.set_cons_zero, List.set_cons_succ, i64_w, i32_w]
               rfl
              refine done_ (done_of HT_.out (by kernel_rfl)) ?_
              have hcz73_0 : w72.cell? ⟨gb102, 0, none⟩ = some (.string a1_0) := (blk_cell BK102.out 0).trans rfl
              have hcz73_1 : w72.cell? ⟨gb102, 1, none⟩ = some (.slice A1_1 l1_1.length c1_1) := (blk_cell BK102.out 1).trans rfl
              have hfz73_0 := blk_frozen BK102.out 0
              have hfz73_1 := blk_frozen BK102.out 1
              go_upto_region 14 with (first | ((with_reducible refine gate_callee (f := 28) rfl ?_); refine goesL_ (some 110) rfl rfl Try.func28 (by kernel_rfl) rfl #[.agg #[.string a1_0, .slice A1_1 l1_1.length c1_1, .slice none 0 0]] rfl (by (try simp only [List.map_toArray, List.map_cons, List.map_nil]); first | done | rfl | (simp only [List.length_drop, List.length_take]; rfl)) ?_; (refine (safe_Check.calls k3 a1_0 _ _ l1_1 _ _ ([] : List (Liter)) t156 t157 t158 _ ?side1 ?side2 ?side3 ?side4 A45.out).mono ?_); (case side1 => repeat (first | exact (Kd.V_reads' HO_103001.out).2.2 | (with_reducible refine Kd.C_alloc ?_ _) | (with_reducible refine Kd.C_drewN ?_ _) | (with_reducible refine Kd.C_drew ?_))); (case side2 => exact (Kd.V_reads' HO_103001.out).2.1); (case side3 => exact Kd.C_nil _ _); (case side4 => exact Nat.le_refl _); rintro e w74 ⟨rfl, hb⟩; refine ⟨_, rfl, ?_⟩; have n0_ := Aside0.mk (Kd.V_below (by (with_reducible repeat (first | apply Kd.V_alloc | apply Kd.V_drewN | apply Kd.V_drew)); exact HO_102002.out) hb); have n1_ := Aside0.mk (Kd.V_below (by (with_reducible repeat (first | apply Kd.V_alloc | apply Kd.V_drewN | apply Kd.V_drew)); exact HO_103001.out) hb); have n2_ := Aside0.mk (Kd.N_below (by (with_reducible repeat (first | apply Kd.N_alloc | apply Kd.N_drewN | apply Kd.N_drew)); exact HO134.out) hb); have n3_ := Aside0.mk (Kd.N_below (by (with_reducible repeat (first | apply Kd.N_alloc | apply Kd.N_drewN | apply Kd.N_drew)); exact HO137.out) hb); have n4_ := Aside0.mk (Kd.N_below (by (with_reducible repeat (first | apply Kd.N_alloc | apply Kd.N_drewN | apply Kd.N_drew)); exact HO149.out) hb); have n5_ := Aside0.mk (Kd.N_below (by (with_reducible repeat (first | apply Kd.N_alloc | apply Kd.N_drewN | apply Kd.N_drew)); exact HO152.out) hb); have n6_ := Aside0.mk (blk_below (g := gb101) (o := .cells #[.string a0_0, .slice A0_1 l0_1.length c0_1, .slice A0_2 l0_2.length c0_2] 27 (0, 0)) (by (with_reducible repeat (first | refine blk_drewN ?_ _ | refine blk_drew ?_ | refine blk_alloc ?_ _)); exact BK101.out) hb); have n7_ := Aside0.mk (blk_below (g := gb102) (o := .cells #[.string a1_0, .slice A1_1 l1_1.length c1_1] 24 (0, 0)) (by (with_reducible repeat (first | refine blk_drewN ?_ _ | refine blk_drew ?_ | refine blk_alloc ?_ _)); exact BK102.out) hb); have n8_ := Aside0.mk (below_step (by repeat (first | (with_reducible first | exact HB.out | apply below_alloc | apply pw_below_drewN | apply below_drew1 | refine below_set ?_ GE101.out | refine below_set ?_ GE102.out) | exact HB.out)) hb); clear HO_102002; clear HO_103001; clear HO134; clear HO137; clear HO149; clear HO152; clear BK101; clear BK102; clear HB; have HO_102002 := n0_; have HO_103001 := n1_; have HO134 := n2_; have HO137 := n3_; have HO149 := n4_; have HO152 := n5_; have BK101 := n6_; have BK102 := n7_; have HB := n8_; clear n0_ n1_ n2_ n3_ n4_ n5_ n6_ n7_ n8_; (try clear hb); (try clear hb2); (try clear hk); (try clear hi)))
              (try simp only [Act.put, List.setIfInBounds_toArray, List.set_cons_zero, List.set_cons_succ])
              go_cut [20] (fun v20 wc => ∃ (kq : Nat) (x20_45 : Bool), v20 = .bool x20_45 ∧ Aside0 (lambrequinlaw09_SafeBinds.j3 kq x5_2 t125 t140 t155 t157 t158 x20_45 = some r) ∧ Aside0 (kq ≤ k3) ∧ Aside0 (Kd.V k47 47 wc w.heap.size (fun k_ => ((P0_2_ k_ ∨ P1_1_ k_) ∨ w.heap.size ≤ k_) ∧ k_ ≠ gb101 ∧ k_ ≠ gb102) (.slice A0_2 l0_2.length c0_2) l0_2) ∧ Aside0 (Kd.V k45 45 wc w.heap.size (fun k_ => ((P0_2_ k_ ∨ P1_1_ k_) ∨ w.heap.size ≤ k_) ∧ k_ ≠ gb101 ∧ k_ ≠ gb102) (.slice A1_1 l1_1.length c1_1) l1_1) ∧ Aside0 (wc.heap[gb101]? = some (.cells #[.string a0_0, (.slice A0_1 l0_1.length c0_1), (.slice A0_2 l0_2.length c0_2)] 27 (0, 0))) ∧ Aside0 (wc.heap[gb102]? = some (.cells #[.string a1_0, (.slice A1_1 l1_1.length c1_1)] 24 (0, 0))) ∧ Aside0 (Below w.heap.size w wc))
              case first =>
               have H := HC46.out
               clear HC46
               replace H := Option.bind_eq_some_iff.mp H
               obtain ⟨t159, A750, H⟩ := H
               replace H : (lambrequinlaw09_SafeBinds.j3 k3 x5_2 t125 t140 t155 t157 t158 ((t159.length : Int) == 0)) = some r := H
               have A75 := Aside0.mk A750
               clear A750
               have H' := Aside0.mk H
               clear H
               have hnb76 := NB102_101.out
               have hnc76 := NB101_102.out
               have hcz77_0 : w74.cell? ⟨gb102, 0, none⟩ = some (.string a1_0) := (blk_cell BK102.out 0).trans rfl
               have hcz77_1 : w74.cell? ⟨gb102, 1, none⟩ = some (.slice A1_1 l1_1.length c1_1) := (blk_cell BK102.out 1).trans rfl
               have hfz77_0 := blk_frozen BK102.out 0
               have hfz77_1 := blk_frozen BK102.out 1
               go_wp2_with (first | ((with_reducible refine gate_callee (f := 31) rfl ?_); refine goesL_ (some 115) rfl rfl Try.func31 (by kernel_rfl) rfl #[.agg #[.string a1_0, .slice A1_1 l1_1.length c1_1]] rfl (by (try simp only [List.map_toArray, List.map_cons, List.map_nil]); first | done | rfl | (simp only [List.length_drop, List.length_take]; rfl)) ?_; (with_reducible refine (safe_Vars.calls k3 a1_0 _ _ l1_1 t159 _ ?side1 ?side2 A75.out).mono ?_); (case side1 => repeat (first | exact (Kd.V_reads' HO_103001.out).2.2 | (with_reducible refine Kd.C_alloc ?_ _) | (with_reducible refine Kd.C_drewN ?_ _) | (with_reducible refine Kd.C_drew ?_))); (case side2 => exact (Kd.V_reads' HO_103001.out).2.1); rintro e w78 ⟨v160, rfl, ho0, hb⟩; refine ⟨_, rfl, ?_⟩; have n0_ := Aside0.mk (Kd.V_elder' (by (with_reducible repeat (first | apply Kd.V_alloc | apply Kd.V_drewN | apply Kd.V_drew)); exact HO_102002.out) (Kd.R_base ho0) hb); have n1_ := Aside0.mk (Kd.V_elder' (by (with_reducible repeat (first | apply Kd.V_alloc | apply Kd.V_drewN | apply Kd.V_drew)); exact HO_103001.out) (Kd.R_base ho0) hb); have n2_ := Aside0.mk (Kd.N_elder' (by (with_reducible repeat (first | apply Kd.N_alloc | apply Kd.N_drewN | apply Kd.N_drew)); exact HO134.out) (Kd.R_base ho0) hb); have n3_ := Aside0.mk (Kd.N_elder' (by (with_reducible repeat (first | apply Kd.N_alloc | apply Kd.N_drewN | apply Kd.N_drew)); exact HO137.out) (Kd.R_base ho0) hb); have n4_ := Aside0.mk (Kd.N_elder' (by (with_reducible repeat (first | apply Kd.N_alloc | apply Kd.N_drewN | apply Kd.N_drew)); exact HO149.out) (Kd.R_base ho0) hb); have n5_ := Aside0.mk (Kd.N_elder' (by (with_reducible repeat (first | apply Kd.N_alloc | apply Kd.N_drewN | apply Kd.N_drew)); exact HO152.out) (Kd.R_base ho0) hb); have n6_ := Aside0.mk (Kd.R_lower (Kd.R_newM (M := fun k_ => (w.heap.size ≤ k_)) ho0 (below_size (by repeat (first | (with_reducible first | exact HB.out | apply below_alloc | apply pw_below_drewN | apply below_drew1 | refine below_set ?_ GE101.out | refine below_set ?_ GE102.out) | exact HB.out))) (fun k_ h_ => h_)) (below_size (by repeat (first | (with_reducible first | exact HB.out | apply below_alloc | apply pw_below_drewN | apply below_drew1 | refine below_set ?_ GE101.out | refine below_set ?_ GE102.out) | exact HB.out)))); have n7_ := Aside0.mk (blk_below (g := gb101) (o := .cells #[.string a0_0, .slice A0_1 l0_1.length c0_1, .slice A0_2 l0_2.length c0_2] 27 (0, 0)) (by (with_reducible repeat (first | refine blk_drewN ?_ _ | refine blk_drew ?_ | refine blk_alloc ?_ _)); exact BK101.out) hb); have n8_ := Aside0.mk (blk_below (g := gb102) (o := .cells #[.string a1_0, .slice A1_1 l1_1.length c1_1] 24 (0, 0)) (by (with_reducible repeat (first | refine blk_drewN ?_ _ | refine blk_drew ?_ | refine blk_alloc ?_ _)); exact BK102.out) hb); have n9_ := Aside0.mk (below_step (by repeat (first | (with_reducible first | exact HB.out | apply below_alloc | apply pw_below_drewN | apply below_drew1 | refine below_set ?_ GE101.out | refine below_set ?_ GE102.out) | exact HB.out)) hb); clear HO_102002; clear HO_103001; clear HO134; clear HO137; clear HO149; clear HO152; clear BK101; clear BK102; clear HB; have HO_102002 := n0_; have HO_103001 := n1_; have HO134 := n2_; have HO137 := n3_; have HO149 := n4_; have HO152 := n5_; have HO161 := n6_; have BK101 := n7_; have BK102 := n8_; have HB := n9_; clear n0_ n1_ n2_ n3_ n4_ n5_ n6_ n7_ n8_ n9_; (try clear hb); (try clear hb2); (try clear hk); (try clear hi); (try clear ho0); obtain ⟨Ao79, co79, eo79⟩ := Kd.R_slice HO161.out; subst eo79))
               go_meet
               case rel => exact ⟨_, (((t159.length : Int) == 0)), (by first | rfl | (simp; done) | (simp [*]; done)), H', ⟨by have := HJ2.out; have := HJ7.out; have := HK3.out; first | omega | exact Nat.le_refl _⟩, ⟨by (with_reducible repeat (first | apply Kd.V_alloc | apply Kd.V_drewN | apply Kd.V_drew)); exact Kd.V_mono HO_102002.out (fun _ hk => ⟨hk.1.1.1, ⟨hk.1.1.2.2.2.2.1, hk.1.1.2.2.2.2.2⟩⟩)⟩, ⟨by (with_reducible repeat (first | apply Kd.V_alloc | apply Kd.V_drewN | apply Kd.V_drew)); exact Kd.V_mono HO_103001.out (fun _ hk => ⟨hk.1.1.1, ⟨hk.1.1.2.2.2.2.1, hk.1.1.2.2.2.2.2⟩⟩)⟩, ⟨by (with_reducible repeat (first | refine blk_drewN ?_ _ | refine blk_drew ?_ | refine blk_alloc ?_ _)); exact BK101.out⟩, ⟨by (with_reducible repeat (first | refine blk_drewN ?_ _ | refine blk_drew ?_ | refine blk_alloc ?_ _)); exact BK102.out⟩, ⟨by repeat (first | (with_reducible first | exact HB.out | apply below_alloc | apply pw_below_drewN | apply below_drew1 | refine below_set ?_ GE101.out | refine below_set ?_ GE102.out) | exact HB.out)⟩⟩
              case rest =>
               clear HC46
               try clear c1
               try clear c2
               try clear p2
               try clear c3
               try clear c4
               try clear c7
               try clear c28
               try clear c31
               try clear c42
               try clear c43
               try clear c76
               try clear hcz73_0
               try clear hcz73_1
               try clear hcz77_0
               try clear hcz77_1
               try clear hfz73_0
               try clear hfz73_1
               try clear hfz77_0
               try clear hfz77_1
               obtain ⟨kq, x20_45, rfl, HA, HJ45, HO_102002, HO_103001, BK101, BK102, HB⟩ := hcut
               cases kq with
               | zero => exact absurd HA.out (by simp [lambrequinlaw09_SafeBinds.j3])
               | succ kj45 =>
                have H := HA.out
                clear HA
                simp only [lambrequinlaw09_SafeBinds.j3] at H
                by_cases c80 : x5_2 = true
                ·subst c80
                 have H1 : (if t140 = 0 then (if t125 = 0 then (if t155 = 0 then (if ((t158 == 0) == x20_45) = true then (if x20_45 = true then (some true) else (some (t157 == (-1)))) else (some false)) else (some false)) else (if ((t158 == 0) == x20_45) = true then (if x20_45 = true then (some true) else (some (t157 == (-1)))) else (some false))) else (some false)) = some r := by rw [if_pos rfl] at H; exact H
                 clear H
                 have H := H1
                 clear H1
                 by_cases c81 : t140 = 0
                 ·rw [if_pos c81] at H
                  have c81b0 : (t140 == 0) = true := beq_iff_eq.mpr c81
                  have c81b1 : (t140 != 0) = false := bne_eq_false_iff_eq.mpr c81
                  clear c81
                  by_cases c82 : t125 = 0
                  ·rw [if_pos c82] at H
                   have c82b0 : (t125 == 0) = true := beq_iff_eq.mpr c82
                   have c82b1 : (t125 != 0) = false := bne_eq_false_iff_eq.mpr c82
                   clear c82
                   by_cases c83 : t155 = 0
                   ·rw [if_pos c83] at H
                    have c83b0 : (t155 == 0) = true := beq_iff_eq.mpr c83
                    have c83b1 : (t155 != 0) = false := bne_eq_false_iff_eq.mpr c83
                    clear c83
                    by_cases c84 : ((t158 == 0) == x20_45) = true
                    ·rw [if_pos c84] at H
                     have c84b0 : ((t158 == 0) == x20_45) = true := c84
                     (try (have c84b1 : decide ((t158 == 0) = x20_45) = true := by simpa using c84))
                     (try (have c84b2 : ((t158 == 0) == x20_45) = true := by simpa using c84))
                     clear c84
                     by_cases c85 : x20_45 = true
                     ·subst c85
                      have H1 : (some true) = some r := by rw [if_pos rfl] at H; exact H
                      clear H
                      have H := H1
                      clear H1
                      obtain rfl := Option.some.inj H
                      go_wp2
                      go_ret
                      exact ⟨by first | rfl | (simp [errW_none, errW_some] <;> rfl) | (simp [*, errW_none, errW_some] <;> rfl), by repeat (first | (with_reducible first | exact HB.out | apply below_alloc | apply pw_below_drewN | apply below_drew1 | refine below_set ?_ GE101.out | refine below_set ?_ GE102.out) | exact HB.out)⟩
                     ·replace c85 := Bool.eq_false_iff.mpr c85
                      subst c85
                      have H1 : (some (t157 == (-1))) = some r := by rw [if_neg (show ¬ (false = true) by decide)] at H; exact H
                      clear H
                      have H := H1
                      clear H1
                      obtain rfl := Option.some.inj H
                      go_wp2
                      go_ret
                      exact ⟨by first | rfl | (simp [errW_none, errW_some] <;> rfl) | (simp [*, errW_none, errW_some] <;> rfl), by repeat (first | (with_reducible first | exact HB.out | apply below_alloc | apply pw_below_drewN | apply below_drew1 | refine below_set ?_ GE101.out | refine below_set ?_ GE102.out) | exact HB.out)⟩
                    ·rw [if_neg c84] at H
                     have c84b0 : ((t158 == 0) == x20_45) = false := by simpa using c84
                     (try (have c84b1 : decide ((t158 == 0) = x20_45) = false := by simpa using c84))
                     (try (have c84b2 : ((t158 == 0) == x20_45) = false := by simpa using c84))
                     (try (have c84b3 : ¬ ((t158 == 0) = x20_45) := by simpa using c84))
                     clear c84
                     obtain rfl := Option.some.inj H
                     go_wp2
                     go_ret
                     exact ⟨by first | rfl | (simp [errW_none, errW_some] <;> rfl) | (simp [*, errW_none, errW_some] <;> rfl), by repeat (first | (with_reducible first | exact HB.out | apply below_alloc | apply pw_below_drewN | apply below_drew1 | refine below_set ?_ GE101.out | refine below_set ?_ GE102.out) | exact HB.out)⟩
                   ·rw [if_neg c83] at H
                    have c83b0 : (t155 == 0) = false := beq_eq_false_iff_ne.mpr c83
                    have c83b1 : (t155 != 0) = true := bne_iff_ne.mpr c83
                    obtain rfl := Option.some.inj H
                    go_wp2
                    go_ret
                    exact ⟨by first | rfl | (simp [errW_none, errW_some] <;> rfl) | (simp [*, errW_none, errW_some] <;> rfl), by repeat (first | (with_reducible first | exact HB.out | apply below_alloc | apply pw_below_drewN | apply below_drew1 | refine below_set ?_ GE101.out | refine below_set ?_ GE102.out) | exact HB.out)⟩
                  ·rw [if_neg c82] at H
                   have c82b0 : (t125 == 0) = false := beq_eq_false_iff_ne.mpr c82
                   have c82b1 : (t125 != 0) = true := bne_iff_ne.mpr c82
                   by_cases c86 : ((t158 == 0) == x20_45) = true
                   ·rw [if_pos c86] at H
                    have c86b0 : ((t158 == 0) == x20_45) = true := c86
                    (try (have c86b1 : decide ((t158 == 0) = x20_45) = true := by simpa using c86))
                    (try (have c86b2 : ((t158 == 0) == x20_45) = true := by simpa using c86))
                    clear c86
                    by_cases c87 : x20_45 = true
                    ·subst c87
                     have H1 : (some true) = some r := by rw [if_pos rfl] at H; exact H
                     clear H
                     have H := H1
                     clear H1
                     obtain rfl := Option.some.inj H
                     go_wp2
                     go_ret
                     exact ⟨by first | rfl | (simp [errW_none, errW_some] <;> rfl) | (simp [*, errW_none, errW_some] <;> rfl), by repeat (first | (with_reducible first | exact HB.out | apply below_alloc | apply pw_below_drewN | apply below_drew1 | refine below_set ?_ GE101.out | refine below_set ?_ GE102.out) | exact HB.out)⟩
                    ·replace c87 := Bool.eq_false_iff.mpr c87
                     subst c87
                     have H1 : (some (t157 == (-1))) = some r := by rw [if_neg (show ¬ (false = true) by decide)] at H; exact H
                     clear H
                     have H := H1
                     clear H1
                     obtain rfl := Option.some.inj H
                     go_wp2
                     go_ret
                     exact ⟨by first | rfl | (simp [errW_none, errW_some] <;> rfl) | (simp [*, errW_none, errW_some] <;> rfl), by repeat (first | (with_reducible first | exact HB.out | apply below_alloc | apply pw_below_drewN | apply below_drew1 | refine below_set ?_ GE101.out | refine below_set ?_ GE102.out) | exact HB.out)⟩
                   ·rw [if_neg c86] at H
                    have c86b0 : ((t158 == 0) == x20_45) = false := by simpa using c86
                    (try (have c86b1 : decide ((t158 == 0) = x20_45) = false := by simpa using c86))
                    (try (have c86b2 : ((t158 == 0) == x20_45) = false := by simpa using c86))
                    (try (have c86b3 : ¬ ((t158 == 0) = x20_45) := by simpa using c86))
                    clear c86
                    obtain rfl := Option.some.inj H
                    go_wp2
                    go_ret
                    exact ⟨by first | rfl | (simp [errW_none, errW_some] <;> rfl) | (simp [*, errW_none, errW_some] <;> rfl), by repeat (first | (with_reducible first | exact HB.out | apply below_alloc | apply pw_below_drewN | apply below_drew1 | refine below_set ?_ GE101.out | refine below_set ?_ GE102.out) | exact HB.out)⟩
                 ·rw [if_neg c81] at H
                  have c81b0 : (t140 == 0) = false := beq_eq_false_iff_ne.mpr c81
                  have c81b1 : (t140 != 0) = true := bne_iff_ne.mpr c81
                  obtain rfl := Option.some.inj H
                  go_wp2
                  go_ret
                  exact ⟨by first | rfl | (simp [errW_none, errW_some] <;> rfl) | (simp [*, errW_none, errW_some] <;> rfl), by repeat (first | (with_reducible first | exact HB.out | apply below_alloc | apply pw_below_drewN | apply below_drew1 | refine below_set ?_ GE101.out | refine below_set ?_ GE102.out) | exact HB.out)⟩
                ·replace c80 := Bool.eq_false_iff.mpr c80
                 subst c80
                 have H1 : (some false) = some r := by rw [if_neg (show ¬ (false = true) by decide)] at H; exact H
                 clear H
                 have H := H1
                 clear H1
                 obtain rfl := Option.some.inj H
                 go_wp2
                 go_ret
                 exact ⟨by first | rfl | (simp [errW_none, errW_some] <;> rfl) | (simp [*, errW_none, errW_some] <;> rfl), by repeat (first | (with_reducible first | exact HB.out | apply below_alloc | apply pw_below_drewN | apply below_drew1 | refine below_set ?_ GE101.out | refine below_set ?_ GE102.out) | exact HB.out)⟩
             ·rw [if_neg c43] at H
              exact absurd H (by simp)
            ·rw [if_neg c42] at H
             exact absurd H (by simp)
           ·rw [if_neg c40] at H
            exact absurd H (by simp)
          ·rw [if_neg c39] at H
           exact absurd H (by simp)
      ·rw [if_neg c19] at H
       exact absurd H (by simp)
end Go.Proofs.Ythpejcnldecmoaa.H

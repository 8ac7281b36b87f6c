/- RowGraphTells of the seat's law GraphTells: the law holds, under the statement's own conditions. -/
import Derived.Test.YtmlhnjonmjmhdaaNXGraphTells
import Derived.Test.YtmlhnjonmjmhdaaNXGraphTells1
import Derived.Test.YtmlhnjonmjmhdaaNXGraphTells2
import Derived.OpenShut
import Derived.SizedLaws
import Derived.DataReads
set_option linter.unusedVariables false
set_option linter.unusedSimpArgs false
set_option linter.unusedSectionVars false
namespace Go.Proofs.Ytmlhnjonmjmhdaa.H
open Go.RowKit Go.Proofs.YtmlhnjonmjmhdaaW.PrintWords Go.Proofs.YtmlhnjonmjmhdaaW.PrintLast Go.Proofs.YtmlhnjonmjmhdaaW.PrintMore
attribute [local go_sem] max2_int min2_int max_two min_two max_three min_three max_four min_four
attribute [local go_sem high] eqA27
mutual
def lambrequinref10_Clean.l0 : Nat → List (IPair) → List (IPair) → Int → Option ((List (IPair)) × Int)
 | 0, _, _, _ => none
 | k + 1, x1, x6, x7 => if x7 < (x1.length : Int) then (if 0 ≤ x7 then (lambrequinref10_Clean.l1 k x1 x6 x7 0 ((rd_T27 x1 x7).fst) ((rd_T27 x1 x7).snd)) else (none)) else (some (x6, 0))
def lambrequinref10_Clean.l1 : Nat → List (IPair) → List (IPair) → Int → Int → Int → Int → Option ((List (IPair)) × Int)
 | 0, _, _, _, _, _, _ => none
 | k + 1, x1, x6, x7, x9, x104000, x104001 => if x9 < (x6.length : Int) then (if 0 ≤ x9 then (if ((rd_T27 x6 x9).fst) < x104000 then (lambrequinref10_Clean.l1 k x1 x6 x7 (wrap64 (x9 + 1)) x104000 x104001) else (if ((rd_T27 x6 x9).fst) = x104000 then (if ((rd_T27 x6 x9).snd) < x104001 then (lambrequinref10_Clean.l1 k x1 x6 x7 (wrap64 (x9 + 1)) x104000 x104001) else (if (((rd_T27 x6 x9).fst) == x104000 && (((rd_T27 x6 x9).snd) == x104001)) = true then (lambrequinref10_Clean.l0 k x1 x6 (wrap64 (x7 + 1))) else ((some (([] : List (IPair)) : List (IPair))).bind fun y108 => (if x9 ≤ (x6.length : Int) then ((some (x6.take (x9 : Int).toNat : List (IPair))).bind fun y111 => (if y108.length + y111.length < 8796093022208 then ((some (y108 ++ y111 : List (IPair))).bind fun y115 => (if y115.length < 8796093022208 then ((some (y115 ++ [(⟨x104000, x104001⟩ : IPair)] : List (IPair))).bind fun y118 => ((some (x6.drop (x9 : Int).toNat : List (IPair))).bind fun y121 => (if y118.length + y121.length < 8796093022208 then (lambrequinref10_Clean.l0 k x1 (y118 ++ y121) (wrap64 (x7 + 1))) else (none)))) else (none))) else (none))) else (none))))) else (if (((rd_T27 x6 x9).fst) == x104000 && (((rd_T27 x6 x9).snd) == x104001)) = true then (lambrequinref10_Clean.l0 k x1 x6 (wrap64 (x7 + 1))) else ((some (([] : List (IPair)) : List (IPair))).bind fun y129 => (if x9 ≤ (x6.length : Int) then ((some (x6.take (x9 : Int).toNat : List (IPair))).bind fun y132 => (if y129.length + y132.length < 8796093022208 then ((some (y129 ++ y132 : List (IPair))).bind fun y136 => (if y136.length < 8796093022208 then ((some (y136 ++ [(⟨x104000, x104001⟩ : IPair)] : List (IPair))).bind fun y139 => ((some (x6.drop (x9 : Int).toNat : List (IPair))).bind fun y142 => (if y139.length + y142.length < 8796093022208 then (lambrequinref10_Clean.l0 k x1 (y139 ++ y142) (wrap64 (x7 + 1))) else (none)))) else (none))) else (none))) else (none)))))) else (none)) else ((some (([] : List (IPair)) : List (IPair))).bind fun y149 => (if 0 ≤ x9 then (if x9 ≤ (x6.length : Int) then ((some (x6.take (x9 : Int).toNat : List (IPair))).bind fun y152 => (if y149.length + y152.length < 8796093022208 then ((some (y149 ++ y152 : List (IPair))).bind fun y156 => (if y156.length < 8796093022208 then ((some (y156 ++ [(⟨x104000, x104001⟩ : IPair)] : List (IPair))).bind fun y159 => ((some (x6.drop (x9 : Int).toNat : List (IPair))).bind fun y162 => (if y159.length + y162.length < 8796093022208 then (lambrequinref10_Clean.l0 k x1 (y159 ++ y162) (wrap64 (x7 + 1))) else (none)))) else (none))) else (none))) else (none)) else (none)))
end
def lambrequinref10_Clean.f (k : Nat) (a0 : Int) (l1 : List (IPair)) : Option ((List (IPair)) × Int) := (lambrequinref10_may.f k a0 l1).bind fun t101 => (if t101 = true then (lambrequinref10_Clean.l0 k l1 ([] : List (IPair)) 0) else (some (([] : List (IPair)), 1)))
theorem lambrequinref10_Clean.mono_l : ∀ k, (∀ y0 y1 y2, LeO (lambrequinref10_Clean.l0 k y0 y1 y2) (lambrequinref10_Clean.l0 (k + 1) y0 y1 y2)) ∧ (∀ y0 y1 y2 y3 y4 y5, LeO (lambrequinref10_Clean.l1 k y0 y1 y2 y3 y4 y5) (lambrequinref10_Clean.l1 (k + 1) y0 y1 y2 y3 y4 y5))
 | 0 => ⟨fun _ _ _ r h => by simp [lambrequinref10_Clean.l0] at h, fun _ _ _ _ _ _ r h => by simp [lambrequinref10_Clean.l1] at h⟩
 | k + 1 => by
  obtain ⟨ih0, ih1⟩ := lambrequinref10_Clean.mono_l k
  refine ⟨?_, ?_⟩
  ·intro y0 y1 y2
   unfold lambrequinref10_Clean.l0
   repeat' first
   | (with_reducible exact ih0 _ _ _)
   | (with_reducible exact ih1 _ _ _ _ _ _)
   | (with_reducible exact lambrequinref10_may.mono _ _ _)
   | (with_reducible exact LeO.refl _)
   | (with_reducible exact LeO.none _)
   | (with_reducible refine LeO.ite ?_ ?_)
   | (with_reducible refine LeO.bind ?_ (fun _ => ?_))
   | exact ih0 _ _ _
   | exact ih1 _ _ _ _ _ _
   | exact lambrequinref10_may.mono _ _ _
   | exact LeO.none _
   | refine LeO.ite ?_ ?_
   | refine LeO.bind ?_ (fun _ => ?_)
  ·intro y0 y1 y2 y3 y4 y5
   unfold lambrequinref10_Clean.l1
   repeat' first
   | (with_reducible exact ih0 _ _ _)
   | (with_reducible exact ih1 _ _ _ _ _ _)
   | (with_reducible exact lambrequinref10_may.mono _ _ _)
   | (with_reducible exact LeO.refl _)
   | (with_reducible exact LeO.none _)
   | (with_reducible refine LeO.ite ?_ ?_)
   | (with_reducible refine LeO.bind ?_ (fun _ => ?_))
   | exact ih0 _ _ _
   | exact ih1 _ _ _ _ _ _
   | exact lambrequinref10_may.mono _ _ _
   | exact LeO.none _
   | refine LeO.ite ?_ ?_
   | refine LeO.bind ?_ (fun _ => ?_)
theorem lambrequinref10_Clean.mono : ∀ a0 a1 k, LeO (lambrequinref10_Clean.f k a0 a1) (lambrequinref10_Clean.f (k + 1) a0 a1) := by
 intro a0 a1 k
 obtain ⟨ih0, ih1⟩ := lambrequinref10_Clean.mono_l k
 unfold lambrequinref10_Clean.f
 repeat' first
   | (with_reducible exact ih0 _ _ _)
   | (with_reducible exact ih1 _ _ _ _ _ _)
   | (with_reducible exact lambrequinref10_may.mono _ _ _)
   | (with_reducible exact LeO.refl _)
   | (with_reducible exact LeO.none _)
   | (with_reducible refine LeO.ite ?_ ?_)
   | (with_reducible refine LeO.bind ?_ (fun _ => ?_))
   | exact ih0 _ _ _
   | exact ih1 _ _ _ _ _ _
   | exact lambrequinref10_may.mono _ _ _
   | exact LeO.none _
   | refine LeO.ite ?_ ?_
   | refine LeO.bind ?_ (fun _ => ?_)
set_option maxHeartbeats 8000000 in
set_option maxRecDepth 100000 in
theorem lambrequinref10_Clean.calls (k : Nat) (a0 : Int) (A1 : Option Addr) (c1 : Nat) (l1 : List (IPair)) (r1 : List (IPair)) (r2 : Int) (w : World) (hr1 : Kd.C k27 w A1 l1.length l1) (hc1 : l1.length ≤ c1) (h : lambrequinref10_Clean.f k a0 l1 = some (r1, r2)) :
  Calls Try.prog 21 #[.int .i64 a0, .slice A1 l1.length c1] w fun e w' => ∃ v0_ : Value, e = .returned (.tuple #[v0_, .int .i64 r2]) ∧ Kd.R k27 27 w' w.heap.size (fun _ => True) v0_ r1 ∧ Below w.heap.size w w' := by
 have hu27 := Try.underlying27
 have HR1 := am hr1
 have HC1 := am hc1
 clear hr1 hc1
 have HB := am (Below.refl w.heap.size w)
 have H : ((lambrequinref10_may.f k a0 l1).bind fun t101 => (if t101 = true then (lambrequinref10_Clean.l0 k l1 ([] : List (IPair)) 0) else (some (([] : List (IPair)), 1)))) = some (r1, r2) := h
 clear h
 replace H := Option.bind_eq_some_iff.mp H
 obtain ⟨t101, A30, H⟩ := H
 replace H : (if t101 = true then (lambrequinref10_Clean.l0 k l1 ([] : List (IPair)) 0) else (some (([] : List (IPair)), 1))) = some (r1, r2) := H
 have A3 := am A30
 clear A30
 by_cases c4 : t101 = true
 ·subst c4
  have H1 : (lambrequinref10_Clean.l0 k l1 ([] : List (IPair)) 0) = some (r1, r2) := by rw [if_pos rfl] at H; exact H
  clear H
  have H := H1
  clear H1
  have H' := am H
  clear H
  go_enter Try.func21, Try.ntmps21
  go_wp2_with (first | (go_at_call 49; (with_reducible refine (lambrequinref10_may.calls k a0 _ _ l1 true _ ?side1 ?side2 A3.out).mono ?_); (case side1 => repeat (first | exact HR1.out | (with_reducible refine Kd.C_alloc ?_ _) | (with_reducible refine Kd.C_drewN ?_ _) | (with_reducible refine Kd.C_drew ?_))); (case side2 => exact HC1.out); rintro e w' ⟨rfl, ⟨nd, rfl⟩⟩; (try first | exact ⟨rfl, _, World.drewN_drewN _ _ _⟩ | exact ⟨rfl, _, Eq.trans (World.drewN_drewN _ _ _) (congrArg (World.drewN _) (Nat.add_assoc _ _ _))⟩)))
  repeat (go_quiet (first | (go_at_call 49; (with_reducible refine (lambrequinref10_may.calls k a0 _ _ l1 true _ ?side1 ?side2 A3.out).mono ?_); (case side1 => repeat (first | exact HR1.out | (with_reducible refine Kd.C_alloc ?_ _) | (with_reducible refine Kd.C_drewN ?_ _) | (with_reducible refine Kd.C_drew ?_))); (case side2 => exact HC1.out); rintro e w' ⟨rfl, ⟨nd, rfl⟩⟩; (try first | exact ⟨rfl, _, World.drewN_drewN _ _ _⟩ | exact ⟨rfl, _, Eq.trans (World.drewN_drewN _ _ _) (congrArg (World.drewN _) (Nat.add_assoc _ _ _))⟩))); try go_wp2_with (first | (go_at_call 49; (with_reducible refine (lambrequinref10_may.calls k a0 _ _ l1 true _ ?side1 ?side2 A3.out).mono ?_); (case side1 => repeat (first | exact HR1.out | (with_reducible refine Kd.C_alloc ?_ _) | (with_reducible refine Kd.C_drewN ?_ _) | (with_reducible refine Kd.C_drew ?_))); (case side2 => exact HC1.out); rintro e w' ⟨rfl, ⟨nd, rfl⟩⟩; (try first | exact ⟨rfl, _, World.drewN_drewN _ _ _⟩ | exact ⟨rfl, _, Eq.trans (World.drewN_drewN _ _ _) (congrArg (World.drewN _) (Nat.add_assoc _ _ _))⟩))))
  go_loopg [6, 7] k (fun kq v6 v7 w' => ∃ (x6_1 : List (IPair)) (x7_1 : Int), v7 = .int .i64 x7_1 ∧ Aside0 (lambrequinref10_Clean.l0 kq l1 x6_1 x7_1 = some (r1, r2)) ∧ Aside0 (kq ≤ k) ∧ Aside0 (Kd.R k27 27 w' w.heap.size (fun _ => True) v6 x6_1) ∧ Aside0 (Below w.heap.size w w'))
  case atStart => exact ⟨(([] : List (IPair))), (0), (by first | rfl | (simp; done) | (simp [*]; done)), H', ⟨Nat.le_refl _⟩, ⟨by first | exact Kd.R_nil _ _ _ _ _ | exact Kd.N_nil _ _ _ _ _ | exact Kd.V_nil _ _ _ _ _ | exact Kd.Q_nil _ _ _ _ _ | exact Kd.S_nil _ _ _ _ _⟩, ⟨by repeat (first | (with_reducible first | exact HB.out | apply lA | apply lN | apply lD) | exact HB.out)⟩⟩
  case round =>
   clear H'
   try clear c1
   try clear c2
   try clear p2
   try clear c4
   obtain ⟨x6_1, x7_1, rfl, HA, HK1, HO_6, HB⟩ := hrel
   cases gk with
   | zero => exact absurd HA.out (by simp [lambrequinref10_Clean.l0])
   | succ k1 =>
    have H := HA.out
    clear HA
    simp only [lambrequinref10_Clean.l0] at H
    by_cases c5 : x7_1 < (l1.length : Int)
    ·rw [if_pos c5] at H
     have c5b0 : decide (x7_1 < (l1.length : Int)) = true := decide_eq_true c5
     clear c5
     by_cases c6 : 0 ≤ x7_1
     ·rw [if_pos c6] at H
      have c6b0 : decide (0 ≤ x7_1) = true := decide_eq_true c6
      clear c6
      have H' := am H
      clear H
      have p102 : 0 ≤ (x7_1 : Int) := of_decide_eq_true (by first | (with_reducible assumption) | assumption)
      have q102 : x7_1 < (l1.length : Int) := of_decide_eq_true (by first | (with_reducible assumption) | assumption)
      obtain ⟨ad102, e102, hx102_0, hx102_1⟩ := at_T27 HR1.out x7_1 p102 q102
      cases e102
      replace hx102_0 := (HB.out.cell (blt_ hx102_0)).trans hx102_0
      replace hx102_1 := (HB.out.cell (blt_ hx102_1)).trans hx102_1
      replace p102 := eq_true p102
      replace q102 := eq_true q102
      go_wp2_with (first | ((with_reducible refine gate_dst (N := 8) rfl ?_); refine box_event ?hg (N := 8) ?hd (cs := #[.int .i64 0, .int .i64 0]) (t := 27) ?hr ?_; (case hd => rfl); (case hg => rfl); (case hr => first | (go_simp; done) | (go_simp; rfl)); intro gb103 hg w7 hbox hb; replace HO_6 := am (Kd.R_below (Kd.R_elderB (by (with_reducible repeat (first | apply Ra | apply Rn | apply Rd)); exact HO_6.out) gb103 (Nat.le_of_eq hg.symm)) hb); have BK103 := am (hbox); have GW103 := am ((by rw [hg]; exact (below_size (by repeat (first | (with_reducible first | exact HB.out | apply lA | apply lN | apply lD) | exact HB.out))) : w.heap.size ≤ gb103)); have GE103 := am ((by rw [hg]; exact (below_size (by repeat (first | (with_reducible first | exact HB.out | apply lA | apply lN | apply lD) | exact HB.out))) : w.heap.size ≤ gb103)); replace HB := am (below_step (by repeat (first | (with_reducible first | exact HB.out | apply lA | apply lN | apply lD) | exact HB.out)) hb); clear hb hbox hg; have hcz8_0 : w7.cell? ⟨gb103, 0, none⟩ = some (.int .i64 0) := (blk_cell BK103.out 0).trans rfl; have hcz8_1 : w7.cell? ⟨gb103, 1, none⟩ = some (.int .i64 0) := (blk_cell BK103.out 1).trans rfl; have hfz8_0 := blk_frozen BK103.out 0; have hfz8_1 := blk_frozen BK103.out 1))
      repeat (go_quiet (first | ((with_reducible refine gate_dst (N := 8) rfl ?_); refine box_event ?hg (N := 8) ?hd (cs := #[.int .i64 0, .int .i64 0]) (t := 27) ?hr ?_; (case hd => rfl); (case hg => rfl); (case hr => first | (go_simp; done) | (go_simp; rfl)); intro gb103 hg w7 hbox hb; replace HO_6 := am (Kd.R_below (Kd.R_elderB (by (with_reducible repeat (first | apply Ra | apply Rn | apply Rd)); exact HO_6.out) gb103 (Nat.le_of_eq hg.symm)) hb); have BK103 := am (hbox); have GW103 := am ((by rw [hg]; exact (below_size (by repeat (first | (with_reducible first | exact HB.out | apply lA | apply lN | apply lD) | exact HB.out))) : w.heap.size ≤ gb103)); have GE103 := am ((by rw [hg]; exact (below_size (by repeat (first | (with_reducible first | exact HB.out | apply lA | apply lN | apply lD) | exact HB.out))) : w.heap.size ≤ gb103)); replace HB := am (below_step (by repeat (first | (with_reducible first | exact HB.out | apply lA | apply lN | apply lD) | exact HB.out)) hb); clear hb hbox hg; have hcz8_0 : w7.cell? ⟨gb103, 0, none⟩ = some (.int .i64 0) := (blk_cell BK103.out 0).trans rfl; have hcz8_1 : w7.cell? ⟨gb103, 1, none⟩ = some (.int .i64 0) := (blk_cell BK103.out 1).trans rfl; have hfz8_0 := blk_frozen BK103.out 0; have hfz8_1 := blk_frozen BK103.out 1)); try go_wp2_with (first | ((with_reducible refine gate_dst (N := 8) rfl ?_); refine box_event ?hg (N := 8) ?hd (cs := #[.int .i64 0, .int .i64 0]) (t := 27) ?hr ?_; (case hd => rfl); (case hg => rfl); (case hr => first | (go_simp; done) | (go_simp; rfl)); intro gb103 hg w7 hbox hb; replace HO_6 := am (Kd.R_below (Kd.R_elderB (by (with_reducible repeat (first | apply Ra | apply Rn | apply Rd)); exact HO_6.out) gb103 (Nat.le_of_eq hg.symm)) hb); have BK103 := am (hbox); have GW103 := am ((by rw [hg]; exact (below_size (by repeat (first | (with_reducible first | exact HB.out | apply lA | apply lN | apply lD) | exact HB.out))) : w.heap.size ≤ gb103)); have GE103 := am ((by rw [hg]; exact (below_size (by repeat (first | (with_reducible first | exact HB.out | apply lA | apply lN | apply lD) | exact HB.out))) : w.heap.size ≤ gb103)); replace HB := am (below_step (by repeat (first | (with_reducible first | exact HB.out | apply lA | apply lN | apply lD) | exact HB.out)) hb); clear hb hbox hg; have hcz8_0 : w7.cell? ⟨gb103, 0, none⟩ = some (.int .i64 0) := (blk_cell BK103.out 0).trans rfl; have hcz8_1 : w7.cell? ⟨gb103, 1, none⟩ = some (.int .i64 0) := (blk_cell BK103.out 1).trans rfl; have hfz8_0 := blk_frozen BK103.out 0; have hfz8_1 := blk_frozen BK103.out 1)))
      go_loopg [9] k1 (fun kq v9 w' => ∃ (x9_2 : Int), v9 = .int .i64 x9_2 ∧ Aside0 (lambrequinref10_Clean.l1 kq l1 x6_1 x7_1 x9_2 ((rd_T27 l1 x7_1).fst) ((rd_T27 l1 x7_1).snd) = some (r1, r2)) ∧ Aside0 (kq ≤ k1) ∧ Aside0 (Kd.R k27 27 w' w.heap.size (fun k_ => k_ ≠ gb103) u6 x6_1) ∧ Aside0 (w'.heap[gb103]? = some (.cells #[.int .i64 ((rd_T27 l1 x7_1).fst), .int .i64 ((rd_T27 l1 x7_1).snd)] 27 (0, 0))) ∧ Aside0 (Below w.heap.size w w'))
      case atStart => exact ⟨(0), (by first | rfl | (simp; done) | (simp [*]; done)), H', ⟨Nat.le_refl _⟩, ⟨by (with_reducible repeat (first | apply Ra | apply Rn | apply Rd)); exact Kd.R_mono (Kd.R_far (p := ⟨gb103, 1, none⟩) (Kd.R_far (p := ⟨gb103, 0, none⟩) (Kd.R_mono HO_6.out (fun k_ hk => (⟨hk, hk.2⟩ : _ ∧ k_ ≠ gb103))) (fun _ hk => hk.2) _) (fun _ hk => hk.2) _) (fun _ hk => hk.1.2)⟩, ⟨by (with_reducible repeat (first | refine bN ?_ _ | refine bD ?_ | refine bA ?_ _)); refine blk_put (cs := #[.int .i64 ((rd_T27 l1 x7_1).fst), .int .i64 0]) ?_ 1 _ rfl; (with_reducible repeat (first | refine bN ?_ _ | refine bD ?_ | refine bA ?_ _)); refine blk_put (cs := #[.int .i64 0, .int .i64 0]) ?_ 0 _ rfl; (with_reducible repeat (first | refine bN ?_ _ | refine bD ?_ | refine bA ?_ _)); exact BK103.out⟩, ⟨by repeat (first | (with_reducible first | exact HB.out | apply lA | apply lN | apply lD | refine lS ?_ GE103.out) | exact HB.out)⟩⟩
      case round =>
       clear H'
       try clear c1
       try clear p1
       try clear q1
       try clear hx1
       try clear c2
       try clear p2
       try clear c4
       try clear c5
       try clear c5b0
       try clear c6
       try clear c6b0
       try clear hcz8_0
       try clear hcz8_1
       try clear hfz8_0
       try clear hfz8_1
       try clear hx102_0
       try clear hx102_1
       try clear p102
       try clear p2
       try clear q102
       obtain ⟨x9_2, rfl, HA, HK2, HO_6, BK103, HB⟩ := hrel
       cases gk with
       | zero => exact absurd HA.out (by simp [lambrequinref10_Clean.l1])
       | succ k2 =>
        have H := HA.out
        clear HA
        simp only [lambrequinref10_Clean.l1] at H
        by_cases c9 : x9_2 < (x6_1.length : Int)
        ·rw [if_pos c9] at H
         have c9b0 : decide (x9_2 < (x6_1.length : Int)) = true := decide_eq_true c9
         clear c9
         by_cases c10 : 0 ≤ x9_2
         ·rw [if_pos c10] at H
          have c10b0 : decide (0 ≤ x9_2) = true := decide_eq_true c10
          clear c10
          by_cases c11 : ((rd_T27 x6_1 x9_2).fst) < ((rd_T27 l1 x7_1).fst)
          ·rw [if_pos c11] at H
           have c11b0 : decide (((rd_T27 x6_1 x9_2).fst) < ((rd_T27 l1 x7_1).fst)) = true := decide_eq_true c11
           clear c11
           have H' := am H
           clear H
           obtain ⟨Ao12, co12, eo12⟩ := Kd.R_slice HO_6.out
           (first | subst eo12 | (injection eo12 with f1_ f2_ f3_; have f4_ := f1_.symm; have f5_ := f3_.symm; clear f1_ f2_ f3_; subst f4_; subst f5_))
           have p104 : 0 ≤ (x9_2 : Int) := of_decide_eq_true (by first | (with_reducible assumption) | assumption)
           have q104 : x9_2 < (x6_1.length : Int) := of_decide_eq_true (by first | (with_reducible assumption) | assumption)
           obtain ⟨ad104, e104, hx104_0, hx104_1⟩ := at_T27 (Kd.R_reads' HO_6.out).2.2 x9_2 p104 q104
           cases e104
           replace p104 := eq_true p104
           replace q104 := eq_true q104
           have hcz13_0 : wr.cell? ⟨gb103, 0, none⟩ = some (.int .i64 ((rd_T27 l1 x7_1).fst)) := (blk_cell BK103.out 0).trans rfl
           have hcz13_1 : wr.cell? ⟨gb103, 1, none⟩ = some (.int .i64 ((rd_T27 l1 x7_1).snd)) := (blk_cell BK103.out 1).trans rfl
           have hfz13_0 := blk_frozen BK103.out 0
           have hfz13_1 := blk_frozen BK103.out 1
           go_wp2
           repeat (go_quiet (fail); try go_wp2)
           go_roundg k2
           case measure => have := HK1.out; have := HK2.out; omega
           case rel => exact ⟨(wrap64 (x9_2 + 1)), (by first | rfl | (simp; done) | (simp [*]; done)), H', ⟨by have := HK1.out; have := HK2.out; omega⟩, ⟨by (with_reducible repeat (first | apply Ra | apply Rn | apply Rd)); exact HO_6.out⟩, ⟨by (with_reducible repeat (first | refine bN ?_ _ | refine bD ?_ | refine bA ?_ _)); exact BK103.out⟩, ⟨by repeat (first | (with_reducible first | exact HB.out | apply lA | apply lN | apply lD | refine lS ?_ GE103.out) | exact HB.out)⟩⟩
          ·rw [if_neg c11] at H
           have c11b0 : decide (((rd_T27 x6_1 x9_2).fst) < ((rd_T27 l1 x7_1).fst)) = false := decide_eq_false c11
           clear c11
           by_cases c14 : ((rd_T27 x6_1 x9_2).fst) = ((rd_T27 l1 x7_1).fst)
           ·rw [if_pos c14] at H
            have c14b0 : (((rd_T27 x6_1 x9_2).fst) == ((rd_T27 l1 x7_1).fst)) = true := beq_iff_eq.mpr c14
            have c14b1 : (((rd_T27 x6_1 x9_2).fst) != ((rd_T27 l1 x7_1).fst)) = false := bne_eq_false_iff_eq.mpr c14
            clear c14
            by_cases c15 : ((rd_T27 x6_1 x9_2).snd) < ((rd_T27 l1 x7_1).snd)
            ·rw [if_pos c15] at H
             have c15b0 : decide (((rd_T27 x6_1 x9_2).snd) < ((rd_T27 l1 x7_1).snd)) = true := decide_eq_true c15
             clear c15
             have H' := am H
             clear H
             obtain ⟨Ao16, co16, eo16⟩ := Kd.R_slice HO_6.out
             (first | subst eo16 | (injection eo16 with f1_ f2_ f3_; have f4_ := f1_.symm; have f5_ := f3_.symm; clear f1_ f2_ f3_; subst f4_; subst f5_))
             have p104 : 0 ≤ (x9_2 : Int) := of_decide_eq_true (by first | (with_reducible assumption) | assumption)
             have q104 : x9_2 < (x6_1.length : Int) := of_decide_eq_true (by first | (with_reducible assumption) | assumption)
             obtain ⟨ad104, e104, hx104_0, hx104_1⟩ := at_T27 (Kd.R_reads' HO_6.out).2.2 x9_2 p104 q104
             cases e104
             replace p104 := eq_true p104
             replace q104 := eq_true q104
             have hcz17_0 : wr.cell? ⟨gb103, 0, none⟩ = some (.int .i64 ((rd_T27 l1 x7_1).fst)) := (blk_cell BK103.out 0).trans rfl
             have hcz17_1 : wr.cell? ⟨gb103, 1, none⟩ = some (.int .i64 ((rd_T27 l1 x7_1).snd)) := (blk_cell BK103.out 1).trans rfl
             have hfz17_0 := blk_frozen BK103.out 0
             have hfz17_1 := blk_frozen BK103.out 1
             have p105 : 0 ≤ (x9_2 : Int) := of_decide_eq_true (by first | (with_reducible assumption) | assumption)
             have q105 : x9_2 < (x6_1.length : Int) := of_decide_eq_true (by first | (with_reducible assumption) | assumption)
             obtain ⟨ad105, e105, hx105_0, hx105_1⟩ := at_T27 (Kd.R_reads' HO_6.out).2.2 x9_2 p105 q105
             obtain rfl : ad104 = ad105 := (by injection e105)
             replace p105 := eq_true p105
             replace q105 := eq_true q105
             have p106 : 0 ≤ (x9_2 : Int) := of_decide_eq_true (by first | (with_reducible assumption) | assumption)
             have q106 : x9_2 < (x6_1.length : Int) := of_decide_eq_true (by first | (with_reducible assumption) | assumption)
             obtain ⟨ad106, e106, hx106_0, hx106_1⟩ := at_T27 (Kd.R_reads' HO_6.out).2.2 x9_2 p106 q106
             obtain rfl : ad104 = ad106 := (by injection e106)
             replace p106 := eq_true p106
             replace q106 := eq_true q106
             go_wp2
             repeat (go_quiet (fail); try go_wp2)
             go_roundg k2
             case measure => have := HK1.out; have := HK2.out; omega
             case rel => exact ⟨(wrap64 (x9_2 + 1)), (by first | rfl | (simp; done) | (simp [*]; done)), H', ⟨by have := HK1.out; have := HK2.out; omega⟩, ⟨by (with_reducible repeat (first | apply Ra | apply Rn | apply Rd)); exact HO_6.out⟩, ⟨by (with_reducible repeat (first | refine bN ?_ _ | refine bD ?_ | refine bA ?_ _)); exact BK103.out⟩, ⟨by repeat (first | (with_reducible first | exact HB.out | apply lA | apply lN | apply lD | refine lS ?_ GE103.out) | exact HB.out)⟩⟩
            ·rw [if_neg c15] at H
             have c15b0 : decide (((rd_T27 x6_1 x9_2).snd) < ((rd_T27 l1 x7_1).snd)) = false := decide_eq_false c15
             clear c15
             by_cases c18 : (((rd_T27 x6_1 x9_2).fst) == ((rd_T27 l1 x7_1).fst) && (((rd_T27 x6_1 x9_2).snd) == ((rd_T27 l1 x7_1).snd))) = true
             ·rw [if_pos c18] at H
              have c18b0 : (((rd_T27 x6_1 x9_2).fst) == ((rd_T27 l1 x7_1).fst) && (((rd_T27 x6_1 x9_2).snd) == ((rd_T27 l1 x7_1).snd))) = true := c18
              have c18s : (((rd_T27 x6_1 x9_2).snd) == ((rd_T27 l1 x7_1).snd)) = true := by
                have h_ := c18b0
                rw [c14b0, Bool.true_and] at h_
                exact h_
              (try (have c18b1 : decide (((rd_T27 x6_1 x9_2).fst) = ((rd_T27 l1 x7_1).fst) && (((rd_T27 x6_1 x9_2).snd) == ((rd_T27 l1 x7_1).snd))) = true := by simpa using c18))
              (try (have c18b2 : (((rd_T27 x6_1 x9_2).fst) == ((rd_T27 l1 x7_1).fst) && (((rd_T27 x6_1 x9_2).snd) == ((rd_T27 l1 x7_1).snd))) = true := by simpa using c18))
              clear c18
              have H' := am H
              clear H
              obtain ⟨Ao19, co19, eo19⟩ := Kd.R_slice HO_6.out
              (first | subst eo19 | (injection eo19 with f1_ f2_ f3_; have f4_ := f1_.symm; have f5_ := f3_.symm; clear f1_ f2_ f3_; subst f4_; subst f5_))
              have p104 : 0 ≤ (x9_2 : Int) := of_decide_eq_true (by first | (with_reducible assumption) | assumption)
              have q104 : x9_2 < (x6_1.length : Int) := of_decide_eq_true (by first | (with_reducible assumption) | assumption)
              obtain ⟨ad104, e104, hx104_0, hx104_1⟩ := at_T27 (Kd.R_reads' HO_6.out).2.2 x9_2 p104 q104
              cases e104
              replace p104 := eq_true p104
              replace q104 := eq_true q104
              have hcz20_0 : wr.cell? ⟨gb103, 0, none⟩ = some (.int .i64 ((rd_T27 l1 x7_1).fst)) := (blk_cell BK103.out 0).trans rfl
              have hcz20_1 : wr.cell? ⟨gb103, 1, none⟩ = some (.int .i64 ((rd_T27 l1 x7_1).snd)) := (blk_cell BK103.out 1).trans rfl
              have hfz20_0 := blk_frozen BK103.out 0
              have hfz20_1 := blk_frozen BK103.out 1
              have p105 : 0 ≤ (x9_2 : Int) := of_decide_eq_true (by first | (with_reducible assumption) | assumption)
              have q105 : x9_2 < (x6_1.length : Int) := of_decide_eq_true (by first | (with_reducible assumption) | assumption)
              obtain ⟨ad105, e105, hx105_0, hx105_1⟩ := at_T27 (Kd.R_reads' HO_6.out).2.2 x9_2 p105 q105
              obtain rfl : ad104 = ad105 := (by injection e105)
              replace p105 := eq_true p105
              replace q105 := eq_true q105
              have p106 : 0 ≤ (x9_2 : Int) := of_decide_eq_true (by first | (with_reducible assumption) | assumption)
              have q106 : x9_2 < (x6_1.length : Int) := of_decide_eq_true (by first | (with_reducible assumption) | assumption)
              obtain ⟨ad106, e106, hx106_0, hx106_1⟩ := at_T27 (Kd.R_reads' HO_6.out).2.2 x9_2 p106 q106
              obtain rfl : ad104 = ad106 := (by injection e106)
              replace p106 := eq_true p106
              replace q106 := eq_true q106
              have p107 : 0 ≤ (x9_2 : Int) := of_decide_eq_true (by first | (with_reducible assumption) | assumption)
              have q107 : x9_2 < (x6_1.length : Int) := of_decide_eq_true (by first | (with_reducible assumption) | assumption)
              obtain ⟨ad107, e107, hx107_0, hx107_1⟩ := at_T27 (Kd.R_reads' HO_6.out).2.2 x9_2 p107 q107
              obtain rfl : ad104 = ad107 := (by injection e107)
              replace p107 := eq_true p107
              replace q107 := eq_true q107
              go_wp2
              repeat (go_quiet (fail); try go_wp2)
              go_roundg k2
              case measure => have := HK1.out; have := HK2.out; omega
              case rel => exact ⟨(x6_1), (wrap64 (x7_1 + 1)), (by first | rfl | (simp; done) | (simp [*]; done)), H', ⟨by have := HK1.out; have := HK2.out; omega⟩, ⟨by (with_reducible repeat (first | apply Ra | apply Rn | apply Rd)); exact Kd.R_mono HO_6.out (fun _ hk => trivial)⟩, ⟨by repeat (first | (with_reducible first | exact HB.out | apply lA | apply lN | apply lD | refine lS ?_ GE103.out) | exact HB.out)⟩⟩
             ·rw [if_neg c18] at H
              have c18b0 : (((rd_T27 x6_1 x9_2).fst) == ((rd_T27 l1 x7_1).fst) && (((rd_T27 x6_1 x9_2).snd) == ((rd_T27 l1 x7_1).snd))) = false := by simpa using c18
              have c18s : (((rd_T27 x6_1 x9_2).snd) == ((rd_T27 l1 x7_1).snd)) = false := by
                have h_ := c18b0
                rw [c14b0, Bool.true_and] at h_
                exact h_
              (try (have c18b1 : decide (((rd_T27 x6_1 x9_2).fst) = ((rd_T27 l1 x7_1).fst) && (((rd_T27 x6_1 x9_2).snd) == ((rd_T27 l1 x7_1).snd))) = false := by simpa using c18))
              (try (have c18b2 : (((rd_T27 x6_1 x9_2).fst) == ((rd_T27 l1 x7_1).fst) && (((rd_T27 x6_1 x9_2).snd) == ((rd_T27 l1 x7_1).snd))) = false := by simpa using c18))
              (try (have c18b3 : ¬ (((rd_T27 x6_1 x9_2).fst) = ((rd_T27 l1 x7_1).fst) && (((rd_T27 x6_1 x9_2).snd) == ((rd_T27 l1 x7_1).snd))) := by simpa using c18))
              clear c18
              obtain ⟨y108, hy108⟩ : ∃ y_ : List (IPair), y_ = (([] : List (IPair))) := ⟨_, rfl⟩
              replace H : (if x9_2 ≤ (x6_1.length : Int) then ((some (x6_1.take (x9_2 : Int).toNat : List (IPair))).bind fun y111 => (if y108.length + y111.length < 8796093022208 then ((some (y108 ++ y111 : List (IPair))).bind fun y115 => (if y115.length < 8796093022208 then ((some (y115 ++ [(⟨((rd_T27 l1 x7_1).fst), ((rd_T27 l1 x7_1).snd)⟩ : IPair)] : List (IPair))).bind fun y118 => ((some (x6_1.drop (x9_2 : Int).toNat : List (IPair))).bind fun y121 => (if y118.length + y121.length < 8796093022208 then (lambrequinref10_Clean.l0 k2 l1 (y118 ++ y121) (wrap64 (x7_1 + 1))) else (none)))) else (none))) else (none))) else (none)) = some (r1, r2) := by first | (rw [hy108]; with_reducible exact H) | (have H2_ := (Option.bind_some _ _).symm.trans H; rw [hy108]; with_reducible exact H2_) | (have H2_ := (Option.bind_some _ _).symm.trans H; with_reducible exact H2_) | with_reducible exact H | (rw [hy108]; exact H) | exact H
              have Ny108 := am hy108
              clear hy108
              have c21b0 := eq_true (of_decide_eq_true (by first | (with_reducible assumption) | assumption) : 0 ≤ x9_2)
              by_cases c22 : x9_2 ≤ (x6_1.length : Int)
              ·rw [if_pos c22] at H
               have c22b0 := eq_true c22
               have c22b1 : decide (x9_2 ≤ (x6_1.length : Int)) = true := decide_eq_true c22
               clear c22
               obtain ⟨y111, hy111⟩ : ∃ y_ : List (IPair), y_ = (x6_1.take (x9_2 : Int).toNat) := ⟨_, rfl⟩
               replace H : (if y108.length + y111.length < 8796093022208 then ((some (y108 ++ y111 : List (IPair))).bind fun y115 => (if y115.length < 8796093022208 then ((some (y115 ++ [(⟨((rd_T27 l1 x7_1).fst), ((rd_T27 l1 x7_1).snd)⟩ : IPair)] : List (IPair))).bind fun y118 => ((some (x6_1.drop (x9_2 : Int).toNat : List (IPair))).bind fun y121 => (if y118.length + y121.length < 8796093022208 then (lambrequinref10_Clean.l0 k2 l1 (y118 ++ y121) (wrap64 (x7_1 + 1))) else (none)))) else (none))) else (none)) = some (r1, r2) := by first | (rw [hy111]; with_reducible exact H) | (have H2_ := (Option.bind_some _ _).symm.trans H; rw [hy111]; with_reducible exact H2_) | (have H2_ := (Option.bind_some _ _).symm.trans H; with_reducible exact H2_) | with_reducible exact H | (rw [hy111]; exact H) | exact H
               have Ny111 := am hy111
               clear hy111
               by_cases c23 : y108.length + y111.length < 8796093022208
               ·rw [if_pos c23] at H
                have LMc23 := am c23
                clear c23
                obtain ⟨y115, hy115⟩ : ∃ y_ : List (IPair), y_ = (y108 ++ y111) := ⟨_, rfl⟩
                replace H : (if y115.length < 8796093022208 then ((some (y115 ++ [(⟨((rd_T27 l1 x7_1).fst), ((rd_T27 l1 x7_1).snd)⟩ : IPair)] : List (IPair))).bind fun y118 => ((some (x6_1.drop (x9_2 : Int).toNat : List (IPair))).bind fun y121 => (if y118.length + y121.length < 8796093022208 then (lambrequinref10_Clean.l0 k2 l1 (y118 ++ y121) (wrap64 (x7_1 + 1))) else (none)))) else (none)) = some (r1, r2) := by first | (rw [hy115]; with_reducible exact H) | (have H2_ := (Option.bind_some _ _).symm.trans H; rw [hy115]; with_reducible exact H2_) | (have H2_ := (Option.bind_some _ _).symm.trans H; with_reducible exact H2_) | with_reducible exact H | (rw [hy115]; exact H) | exact H
                have Ny115 := am hy115
                clear hy115
                by_cases c24 : y115.length < 8796093022208
                ·rw [if_pos c24] at H
                 have LMc24 := am c24
                 clear c24
                 obtain ⟨y118, hy118⟩ : ∃ y_ : List (IPair), y_ = (y115 ++ [(⟨((rd_T27 l1 x7_1).fst), ((rd_T27 l1 x7_1).snd)⟩ : IPair)]) := ⟨_, rfl⟩
                 replace H : ((some (x6_1.drop (x9_2 : Int).toNat : List (IPair))).bind fun y121 => (if y118.length + y121.length < 8796093022208 then (lambrequinref10_Clean.l0 k2 l1 (y118 ++ y121) (wrap64 (x7_1 + 1))) else (none))) = some (r1, r2) := by first | (rw [hy118]; with_reducible exact H) | (have H2_ := (Option.bind_some _ _).symm.trans H; rw [hy118]; with_reducible exact H2_) | (have H2_ := (Option.bind_some _ _).symm.trans H; with_reducible exact H2_) | with_reducible exact H | (rw [hy118]; exact H) | exact H
                 have Ny118 := am hy118
                 clear hy118
                 have c25b0 := eq_true (of_decide_eq_true (by first | (with_reducible assumption) | assumption) : 0 ≤ x9_2)
                 have c26b0 := eq_true (of_decide_eq_true (by first | (with_reducible assumption) | assumption) : x9_2 ≤ (x6_1.length : Int))
                 obtain ⟨y121, hy121⟩ : ∃ y_ : List (IPair), y_ = (x6_1.drop (x9_2 : Int).toNat) := ⟨_, rfl⟩
                 replace H : (if y118.length + y121.length < 8796093022208 then (lambrequinref10_Clean.l0 k2 l1 (y118 ++ y121) (wrap64 (x7_1 + 1))) else (none)) = some (r1, r2) := by first | (rw [hy121]; with_reducible exact H) | (have H2_ := (Option.bind_some _ _).symm.trans H; rw [hy121]; with_reducible exact H2_) | (have H2_ := (Option.bind_some _ _).symm.trans H; with_reducible exact H2_) | with_reducible exact H | (rw [hy121]; exact H) | exact H
                 have Ny121 := am hy121
                 clear hy121
                 by_cases c27 : y118.length + y121.length < 8796093022208
                 ·rw [if_pos c27] at H
                  have LMc27 := am c27
                  clear c27
                  obtain ⟨y125, hy125⟩ : ∃ y_ : List (IPair), y_ = (y118 ++ y121) := ⟨_, rfl⟩
                  replace H : (lambrequinref10_Clean.l0 k2 l1 y125 (wrap64 (x7_1 + 1))) = some (r1, r2) := by first | (rw [hy125]; with_reducible exact H) | (have H2_ := (Option.bind_some _ _).symm.trans H; rw [hy125]; with_reducible exact H2_) | (have H2_ := (Option.bind_some _ _).symm.trans H; with_reducible exact H2_) | with_reducible exact H | (rw [hy125]; exact H) | exact H
                  have Ny125 := am hy125
                  clear hy125
                  have H' := am H
                  clear H
                  obtain ⟨Ao28, co28, eo28⟩ := Kd.R_slice HO_6.out
                  (first | subst eo28 | (injection eo28 with f1_ f2_ f3_; have f4_ := f1_.symm; have f5_ := f3_.symm; clear f1_ f2_ f3_; subst f4_; subst f5_))
                  have p104 : 0 ≤ (x9_2 : Int) := of_decide_eq_true (by first | (with_reducible assumption) | assumption)
                  have q104 : x9_2 < (x6_1.length : Int) := of_decide_eq_true (by first | (with_reducible assumption) | assumption)
                  obtain ⟨ad104, e104, hx104_0, hx104_1⟩ := at_T27 (Kd.R_reads' HO_6.out).2.2 x9_2 p104 q104
                  cases e104
                  replace p104 := eq_true p104
                  replace q104 := eq_true q104
                  have hcz29_0 : wr.cell? ⟨gb103, 0, none⟩ = some (.int .i64 ((rd_T27 l1 x7_1).fst)) := (blk_cell BK103.out 0).trans rfl
                  have hcz29_1 : wr.cell? ⟨gb103, 1, none⟩ = some (.int .i64 ((rd_T27 l1 x7_1).snd)) := (blk_cell BK103.out 1).trans rfl
                  have hfz29_0 := blk_frozen BK103.out 0
                  have hfz29_1 := blk_frozen BK103.out 1
                  have p105 : 0 ≤ (x9_2 : Int) := of_decide_eq_true (by first | (with_reducible assumption) | assumption)
                  have q105 : x9_2 < (x6_1.length : Int) := of_decide_eq_true (by first | (with_reducible assumption) | assumption)
                  obtain ⟨ad105, e105, hx105_0, hx105_1⟩ := at_T27 (Kd.R_reads' HO_6.out).2.2 x9_2 p105 q105
                  obtain rfl : ad104 = ad105 := (by injection e105)
                  replace p105 := eq_true p105
                  replace q105 := eq_true q105
                  have p106 : 0 ≤ (x9_2 : Int) := of_decide_eq_true (by first | (with_reducible assumption) | assumption)
                  have q106 : x9_2 < (x6_1.length : Int) := of_decide_eq_true (by first | (with_reducible assumption) | assumption)
                  obtain ⟨ad106, e106, hx106_0, hx106_1⟩ := at_T27 (Kd.R_reads' HO_6.out).2.2 x9_2 p106 q106
                  obtain rfl : ad104 = ad106 := (by injection e106)
                  replace p106 := eq_true p106
                  replace q106 := eq_true q106
                  have p107 : 0 ≤ (x9_2 : Int) := of_decide_eq_true (by first | (with_reducible assumption) | assumption)
                  have q107 : x9_2 < (x6_1.length : Int) := of_decide_eq_true (by first | (with_reducible assumption) | assumption)
                  obtain ⟨ad107, e107, hx107_0, hx107_1⟩ := at_T27 (Kd.R_reads' HO_6.out).2.2 x9_2 p107 q107
                  obtain rfl : ad104 = ad107 := (by injection e107)
                  replace p107 := eq_true p107
                  replace q107 := eq_true q107
                  go_wp2_with (first | ((with_reducible refine gate_dst (N := 73) rfl ?_); refine Kd.R_lit k27 _ 27 ?hg (N := 73) ?hd (xs := ([] : List (IPair))) (inner := []) (ok := fun _ => True) (okp := fun _ => True) ?hr ?hp (fun _ hk => hk) trivial (Below.refl _ _) (Nat.le_refl _) (by simp) ?_; (case hd => rfl); (case hg => rfl); (case hr => first | (go_simp; done) | (go_simp; rfl)); (case hp => exact (Reps.none _ _)); intro v109 w30 ho31 hb hg_ hnew_; clear hg_ hnew_; (first | rw [← Ny108.out] at ho31 | (simp only [Int.reduceToNat] at ho31; rw [← Ny108.out] at ho31)); have HO110 := am (Kd.R_lower (Kd.R_newB (Kd.R_new' ho31 (Kd.R_lt (by (with_reducible repeat (first | apply Ra | apply Rn | apply Rd)); exact HO_6.out))) (g := gb103) (o := .cells #[.int .i64 ((rd_T27 l1 x7_1).fst), .int .i64 ((rd_T27 l1 x7_1).snd)] 27 (0, 0)) (by (with_reducible repeat (first | refine bN ?_ _ | refine bD ?_ | refine bA ?_ _)); exact BK103.out)) (below_size (by repeat (first | (with_reducible first | exact HB.out | apply lA | apply lN | apply lD | refine lS ?_ GE103.out) | exact HB.out)))); replace HO_6 := am (Kd.R_elder' (by (with_reducible repeat (first | apply Ra | apply Rn | apply Rd)); exact HO_6.out) (Kd.R_base ho31) hb); replace BK103 := am (blk_below (g := gb103) (o := .cells #[.int .i64 ((rd_T27 l1 x7_1).fst), .int .i64 ((rd_T27 l1 x7_1).snd)] 27 (0, 0)) (by (with_reducible repeat (first | refine bN ?_ _ | refine bD ?_ | refine bA ?_ _)); exact BK103.out) hb); replace HB := am (below_step (by repeat (first | (with_reducible first | exact HB.out | apply lA | apply lN | apply lD | refine lS ?_ GE103.out) | exact HB.out)) hb); clear hb ho31; have q32 : (x9_2 : Int) ≤ ((x6_1.length : Int) : Int) := of_decide_eq_true (by first | (with_reducible assumption) | assumption); obtain ⟨i032, hi032, _, hsz32, _⟩ := info_parts info27; have hroom32 : x6_1.length ≤ co28 := (Kd.R_reads' HO_6.out).2.1; have hC32 : Kd.C k27 _ (some ad104) x6_1.length x6_1 := (Kd.R_reads' HO_6.out).2.2; have hcut32 := cut_to (P := Try.prog) 24 27 .i64 Try.underlying24 hi032 (some ad104) x6_1.length co28 x9_2 (of_decide_eq_true (by first | (with_reducible assumption) | assumption)) q32 hroom32; have hr32 := Kd.C_take (m := (x9_2 : Int).toNat) hC32 (by omega); have hy32 : y111.length = (x9_2 : Int).toNat := (by rw [Ny111.out, List.length_take]; omega); rw [← Ny111.out] at hr32; rw [← hy32] at hcut32; have HR114 := am hr32; have HC114 := am (show y111.length ≤ co28 from by omega); clear hr32 hC32 hroom32 hi032 hsz32; have KY32 := am hy32; clear hy32; have KL32 := am (show (x9_2 : Int).toNat ≤ x6_1.length from by omega); replace q32 := eq_true q32) | ((with_reducible refine gate_builtin (b := .append) (xs := #[.tmp 73, .tmp 76]) rfl ?_); at_builtin; refine Kd.R_append_rows k27 (w0 := w) w.heap.size rfl (.tmp 73) (.tmp 76) 24 27 (.agg #[(.int .i64 0), (.int .i64 0)]) 16 rfl Try.underlying24 info27 rfl (by decide) (by omega) v109 y108 y111 _ _ _ (fun k_ => some k_ ≠ (.slice (some ad104) x6_1.length co28 : Value).ownBlock ∧ k_ ≠ gb103) (fun _ => False) rfl rfl ?aO ?aR (fun _ _ h => h) (fun _ h => h.elim) ?aF ?aB ?aS ?aL ?_; (case aR => repeat (first | exact (by repeat (first | (with_reducible exact HR114.out) | (with_reducible refine Kd.C_alloc ?_ _) | (with_reducible refine Kd.C_drewN ?_ _) | (with_reducible refine Kd.C_drew ?_) | exact HR114.out)) | (with_reducible refine Kd.C_alloc ?_ _) | (with_reducible refine Kd.C_drewN ?_ _) | (with_reducible refine Kd.C_drew ?_))); (case aB => exact (by repeat (first | (with_reducible first | exact HB.out | apply lA | apply lN | apply lD | refine lS ?_ GE103.out) | exact HB.out))); (case aF => exact (fun k_ hk => ⟨Kd.fresh' (Kd.R_lt (by (with_reducible repeat (first | apply Ra | apply Rn | apply Rd)); exact HO_6.out)) k_ hk, Kd.freshB (g := gb103) (o := .cells #[.int .i64 ((rd_T27 l1 x7_1).fst), .int .i64 ((rd_T27 l1 x7_1).snd)] 27 (0, 0)) (by (with_reducible repeat (first | refine bN ?_ _ | refine bD ?_ | refine bA ?_ _)); exact BK103.out) k_ hk⟩)); (case aO => exact (by (with_reducible repeat (first | apply Ra | apply Rn | apply Rd)); exact Kd.R_mono HO110.out (fun _ hk => ⟨hk.1.2, hk.2⟩))); (case aS => exact (below_size (by repeat (first | (with_reducible first | exact HB.out | apply lA | apply lN | apply lD | refine lS ?_ GE103.out) | exact HB.out)))); (case aL => have := LMc23.out; omega); intro v116 w33 ho hb hg hat; rw [← Ny115.out] at ho; replace BK103 := am (blk_grown (g := gb103) (o := .cells #[.int .i64 ((rd_T27 l1 x7_1).fst), .int .i64 ((rd_T27 l1 x7_1).snd)] 27 (0, 0)) (by (with_reducible repeat (first | refine bN ?_ _ | refine bD ?_ | refine bA ?_ _)); exact BK103.out) hg (Kd.R_away HO110.out (fun _ hk => hk.2))); replace HB := am (hb); replace HR114 := am ((show Kd.C k27 w33 (some ad104) y111.length y111 from by rw [Ny111.out]; exact Kd.C_take (m := (x9_2 : Int).toNat) ((Kd.R_reads' (Kd.R_after (ok := (fun k_ => k_ ≠ gb103)) (by (with_reducible repeat (first | apply Ra | apply Rn | apply Rd)); exact HO_6.out) hg hat)).2.2) KL32.out)); replace HO_6 := am (Kd.R_after (ok := (fun k_ => k_ ≠ gb103)) (by (with_reducible repeat (first | apply Ra | apply Rn | apply Rd)); exact HO_6.out) hg hat); have HO117 := am (ho); clear HO110; clear ho hb hg hat; have hcz34_0 : w33.cell? ⟨gb103, 0, none⟩ = some (.int .i64 ((rd_T27 l1 x7_1).fst)) := (blk_cell BK103.out 0).trans rfl; have hcz34_1 : w33.cell? ⟨gb103, 1, none⟩ = some (.int .i64 ((rd_T27 l1 x7_1).snd)) := (blk_cell BK103.out 1).trans rfl; have hfz34_0 := blk_frozen BK103.out 0; have hfz34_1 := blk_frozen BK103.out 1) | ((with_reducible refine gate_builtin (b := .append) (xs := #[.tmp 78, .tmp 80]) rfl ?_); at_builtin; refine Kd.R_append k27 (w0 := w) w.heap.size rfl (.tmp 78) (.tmp 80) 24 27 (.agg #[(.int .i64 0), (.int .i64 0)]) 16 rfl Try.underlying24 info27 rfl (by decide) (by omega) v116 y115 (⟨((rd_T27 l1 x7_1).fst), ((rd_T27 l1 x7_1).snd)⟩ : IPair) [.int .i64 ((rd_T27 l1 x7_1).fst), .int .i64 ((rd_T27 l1 x7_1).snd)] (fun k_ => some k_ ≠ (.slice (some ad104) x6_1.length co28 : Value).ownBlock ∧ k_ ≠ gb103) (fun _ => False) rfl rfl ?aP (fun _ hk => hk.elim) ?aF ?aO ?aB ?aS ?aL ?_; (case aP => exact k27_mkM _ _ _ (⟨((rd_T27 l1 x7_1).fst), ((rd_T27 l1 x7_1).snd)⟩ : IPair)); (case aB => exact (by repeat (first | (with_reducible first | exact HB.out | apply lA | apply lN | apply lD | refine lS ?_ GE103.out) | exact HB.out))); (case aF => exact (fun k_ hk => ⟨Kd.fresh' (Kd.R_lt (by (with_reducible repeat (first | apply Ra | apply Rn | apply Rd)); exact HO_6.out)) k_ hk, Kd.freshB (g := gb103) (o := .cells #[.int .i64 ((rd_T27 l1 x7_1).fst), .int .i64 ((rd_T27 l1 x7_1).snd)] 27 (0, 0)) (by (with_reducible repeat (first | refine bN ?_ _ | refine bD ?_ | refine bA ?_ _)); exact BK103.out) k_ hk⟩)); (case aO => exact (by (with_reducible repeat (first | apply Ra | apply Rn | apply Rd)); exact HO117.out)); (case aS => exact (below_size (by repeat (first | (with_reducible first | exact HB.out | apply lA | apply lN | apply lD | refine lS ?_ GE103.out) | exact HB.out)))); (case aL => have := LMc24.out; omega); intro v119 w35 ho hb hg hat; rw [← Ny118.out] at ho; replace BK103 := am (blk_grown (g := gb103) (o := .cells #[.int .i64 ((rd_T27 l1 x7_1).fst), .int .i64 ((rd_T27 l1 x7_1).snd)] 27 (0, 0)) (by (with_reducible repeat (first | refine bN ?_ _ | refine bD ?_ | refine bA ?_ _)); exact BK103.out) hg (Kd.R_away HO117.out (fun _ hk => hk.2))); replace HB := am (hb); replace HR114 := am ((show Kd.C k27 w35 (some ad104) y111.length y111 from by rw [Ny111.out]; exact Kd.C_take (m := (x9_2 : Int).toNat) ((Kd.R_reads' (Kd.R_after (ok := (fun k_ => k_ ≠ gb103)) (by (with_reducible repeat (first | apply Ra | apply Rn | apply Rd)); exact HO_6.out) hg hat)).2.2) KL32.out)); replace HO_6 := am (Kd.R_after (ok := (fun k_ => k_ ≠ gb103)) (by (with_reducible repeat (first | apply Ra | apply Rn | apply Rd)); exact HO_6.out) hg hat); have HO120 := am (ho); clear HO117; clear ho hb hg hat; have q36 : (x9_2 : Int) ≤ ((x6_1.length : Int) : Int) := of_decide_eq_true (by first | (with_reducible assumption) | assumption); obtain ⟨i036, hi036, _, hsz36, _⟩ := info_parts info27; have hroom36 : x6_1.length ≤ co28 := (Kd.R_reads' HO_6.out).2.1; have hC36 : Kd.C k27 _ (some ad104) x6_1.length x6_1 := (Kd.R_reads' HO_6.out).2.2; have q036 : (0 : Int) ≤ (x9_2 : Int) := of_decide_eq_true (by first | (with_reducible assumption) | assumption); have hcut36 := cut_from (P := Try.prog) 24 27 .i64 Try.underlying24 hi036 2 hsz36 (some ad104) x6_1.length co28 x9_2 q036 q36; have hr36 := Kd.C_drop (m := (x9_2 : Int).toNat) (c := co28) hC36 (by omega) hroom36; obtain ⟨A36, hA36⟩ : ∃ A1, A1 = (if co28 = (x9_2 : Int).toNat then (some ad104) else ((some ad104) : Option Addr).map (·.add ((x9_2 : Int).toNat * 2))) := ⟨_, rfl⟩; obtain ⟨c36, hc36⟩ : ∃ c1, c1 = co28 - (x9_2 : Int).toNat := ⟨_, rfl⟩; have hy36 : y121.length = x6_1.length - (x9_2 : Int).toNat := (by rw [Ny121.out, List.length_drop] <;> omega); rw [show (x6_1).drop (x9_2 : Int).toNat = y121 from Ny121.out.symm] at hr36; replace hr36 : Kd.C k27 _ A36 y121.length y121 := (by rw [hA36]; exact hr36); rw [← hy36, ← hA36, ← hc36] at hcut36; have HR124 := am hr36; have HC124 := am (show y121.length ≤ c36 from by rw [hy36, hc36]; exact Nat.sub_le_sub_right hroom36 _); clear hr36 hC36 hroom36 hi036 hsz36 hc36; have KY36 := am hy36; have KA36 := am hA36; clear hy36 hA36; have KL36 := am (show (x9_2 : Int).toNat ≤ x6_1.length from by omega); replace q36 := eq_true q36) | ((with_reducible refine gate_builtin (b := .append) (xs := #[.tmp 82, .tmp 85]) rfl ?_); at_builtin; refine Kd.R_append_rows k27 (w0 := w) w.heap.size rfl (.tmp 82) (.tmp 85) 24 27 (.agg #[(.int .i64 0), (.int .i64 0)]) 16 rfl Try.underlying24 info27 rfl (by decide) (by omega) v119 y118 y121 _ _ _ (fun k_ => some k_ ≠ (.slice (some ad104) x6_1.length co28 : Value).ownBlock ∧ k_ ≠ gb103) (fun _ => False) rfl rfl ?aO ?aR (fun _ _ h => h) (fun _ h => h.elim) ?aF ?aB ?aS ?aL ?_; (case aR => repeat (first | exact (by repeat (first | (with_reducible exact HR124.out) | (with_reducible refine Kd.C_alloc ?_ _) | (with_reducible refine Kd.C_drewN ?_ _) | (with_reducible refine Kd.C_drew ?_) | exact HR124.out)) | (with_reducible refine Kd.C_alloc ?_ _) | (with_reducible refine Kd.C_drewN ?_ _) | (with_reducible refine Kd.C_drew ?_))); (case aB => exact (by repeat (first | (with_reducible first | exact HB.out | apply lA | apply lN | apply lD | refine lS ?_ GE103.out) | exact HB.out))); (case aF => exact (fun k_ hk => ⟨Kd.fresh' (Kd.R_lt (by (with_reducible repeat (first | apply Ra | apply Rn | apply Rd)); exact HO_6.out)) k_ hk, Kd.freshB (g := gb103) (o := .cells #[.int .i64 ((rd_T27 l1 x7_1).fst), .int .i64 ((rd_T27 l1 x7_1).snd)] 27 (0, 0)) (by (with_reducible repeat (first | refine bN ?_ _ | refine bD ?_ | refine bA ?_ _)); exact BK103.out) k_ hk⟩)); (case aO => exact (by (with_reducible repeat (first | apply Ra | apply Rn | apply Rd)); exact HO120.out)); (case aS => exact (below_size (by repeat (first | (with_reducible first | exact HB.out | apply lA | apply lN | apply lD | refine lS ?_ GE103.out) | exact HB.out)))); (case aL => have := LMc27.out; omega); intro v126 w37 ho hb hg hat; rw [← Ny125.out] at ho; replace BK103 := am (blk_grown (g := gb103) (o := .cells #[.int .i64 ((rd_T27 l1 x7_1).fst), .int .i64 ((rd_T27 l1 x7_1).snd)] 27 (0, 0)) (by (with_reducible repeat (first | refine bN ?_ _ | refine bD ?_ | refine bA ?_ _)); exact BK103.out) hg (Kd.R_away HO120.out (fun _ hk => hk.2))); replace HB := am (hb); replace HR114 := am ((show Kd.C k27 w37 (some ad104) y111.length y111 from by rw [Ny111.out]; exact Kd.C_take (m := (x9_2 : Int).toNat) ((Kd.R_reads' (Kd.R_after (ok := (fun k_ => k_ ≠ gb103)) (by (with_reducible repeat (first | apply Ra | apply Rn | apply Rd)); exact HO_6.out) hg hat)).2.2) KL32.out)); replace HR124 := am ((show Kd.C k27 w37 A36 y121.length y121 from by rw [Ny121.out, KA36.out]; exact Kd.C_drop (m := (x9_2 : Int).toNat) (c := co28) ((Kd.R_reads' (Kd.R_after (ok := (fun k_ => k_ ≠ gb103)) (by (with_reducible repeat (first | apply Ra | apply Rn | apply Rd)); exact HO_6.out) hg hat)).2.2) KL36.out ((Kd.R_reads' (Kd.R_after (ok := (fun k_ => k_ ≠ gb103)) (by (with_reducible repeat (first | apply Ra | apply Rn | apply Rd)); exact HO_6.out) hg hat)).2.1))); replace HO_6 := am (Kd.R_after (ok := (fun k_ => k_ ≠ gb103)) (by (with_reducible repeat (first | apply Ra | apply Rn | apply Rd)); exact HO_6.out) hg hat); have HO127 := am (ho); clear HO120; clear ho hb hg hat))
                  repeat (go_quiet (first | ((with_reducible refine gate_dst (N := 73) rfl ?_); refine Kd.R_lit k27 _ 27 ?hg (N := 73) ?hd (xs := ([] : List (IPair))) (inner := []) (ok := fun _ => True) (okp := fun _ => True) ?hr ?hp (fun _ hk => hk) trivial (Below.refl _ _) (Nat.le_refl _) (by simp) ?_; (case hd => rfl); (case hg => rfl); (case hr => first | (go_simp; done) | (go_simp; rfl)); (case hp => exact (Reps.none _ _)); intro v109 w30 ho31 hb hg_ hnew_; clear hg_ hnew_; (first | rw [← Ny108.out] at ho31 | (simp only [Int.reduceToNat] at ho31; rw [← Ny108.out] at ho31)); have HO110 := am (Kd.R_lower (Kd.R_newB (Kd.R_new' ho31 (Kd.R_lt (by (with_reducible repeat (first | apply Ra | apply Rn | apply Rd)); exact HO_6.out))) (g := gb103) (o := .cells #[.int .i64 ((rd_T27 l1 x7_1).fst), .int .i64 ((rd_T27 l1 x7_1).snd)] 27 (0, 0)) (by (with_reducible repeat (first | refine bN ?_ _ | refine bD ?_ | refine bA ?_ _)); exact BK103.out)) (below_size (by repeat (first | (with_reducible first | exact HB.out | apply lA | apply lN | apply lD | refine lS ?_ GE103.out) | exact HB.out)))); replace HO_6 := am (Kd.R_elder' (by (with_reducible repeat (first | apply Ra | apply Rn | apply Rd)); exact HO_6.out) (Kd.R_base ho31) hb); replace BK103 := am (blk_below (g := gb103) (o := .cells #[.int .i64 ((rd_T27 l1 x7_1).fst), .int .i64 ((rd_T27 l1 x7_1).snd)] 27 (0, 0)) (by (with_reducible repeat (first | refine bN ?_ _ | refine bD ?_ | refine bA ?_ _)); exact BK103.out) hb); replace HB := am (below_step (by repeat (first | (with_reducible first | exact HB.out | apply lA | apply lN | apply lD | refine lS ?_ GE103.out) | exact HB.out)) hb); clear hb ho31; have q32 : (x9_2 : Int) ≤ ((x6_1.length : Int) : Int) := of_decide_eq_true (by first | (with_reducible assumption) | assumption); obtain ⟨i032, hi032, _, hsz32, _⟩ := info_parts info27; have hroom32 : x6_1.length ≤ co28 := (Kd.R_reads' HO_6.out).2.1; have hC32 : Kd.C k27 _ (some ad104) x6_1.length x6_1 := (Kd.R_reads' HO_6.out).2.2; have hcut32 := cut_to (P := Try.prog) 24 27 .i64 Try.underlying24 hi032 (some ad104) x6_1.length co28 x9_2 (of_decide_eq_true (by first | (with_reducible assumption) | assumption)) q32 hroom32; have hr32 := Kd.C_take (m := (x9_2 : Int).toNat) hC32 (by omega); have hy32 : y111.length = (x9_2 : Int).toNat := (by rw [Ny111.out, List.length_take]; omega); rw [← Ny111.out] at hr32; rw [← hy32] at hcut32; have HR114 := am hr32; have HC114 := am (show y111.length ≤ co28 from by omega); clear hr32 hC32 hroom32 hi032 hsz32; have KY32 := am hy32; clear hy32; have KL32 := am (show (x9_2 : Int).toNat ≤ x6_1.length from by omega); replace q32 := eq_true q32) | ((with_reducible refine gate_builtin (b := .append) (xs := #[.tmp 73, .tmp 76]) rfl ?_); at_builtin; refine Kd.R_append_rows k27 (w0 := w) w.heap.size rfl (.tmp 73) (.tmp 76) 24 27 (.agg #[(.int .i64 0), (.int .i64 0)]) 16 rfl Try.underlying24 info27 rfl (by decide) (by omega) v109 y108 y111 _ _ _ (fun k_ => some k_ ≠ (.slice (some ad104) x6_1.length co28 : Value).ownBlock ∧ k_ ≠ gb103) (fun _ => False) rfl rfl ?aO ?aR (fun _ _ h => h) (fun _ h => h.elim) ?aF ?aB ?aS ?aL ?_; (case aR => repeat (first | exact (by repeat (first | (with_reducible exact HR114.out) | (with_reducible refine Kd.C_alloc ?_ _) | (with_reducible refine Kd.C_drewN ?_ _) | (with_reducible refine Kd.C_drew ?_) | exact HR114.out)) | (with_reducible refine Kd.C_alloc ?_ _) | (with_reducible refine Kd.C_drewN ?_ _) | (with_reducible refine Kd.C_drew ?_))); (case aB => exact (by repeat (first | (with_reducible first | exact HB.out | apply lA | apply lN | apply lD | refine lS ?_ GE103.out) | exact HB.out))); (case aF => exact (fun k_ hk => ⟨Kd.fresh' (Kd.R_lt (by (with_reducible repeat (first | apply Ra | apply Rn | apply Rd)); exact HO_6.out)) k_ hk, Kd.freshB (g := gb103) (o := .cells #[.int .i64 ((rd_T27 l1 x7_1).fst), .int .i64 ((rd_T27 l1 x7_1).snd)] 27 (0, 0)) (by (with_reducible repeat (first | refine bN ?_ _ | refine bD ?_ | refine bA ?_ _)); exact BK103.out) k_ hk⟩)); (case aO => exact (by (with_reducible repeat (first | apply Ra | apply Rn | apply Rd)); exact Kd.R_mono HO110.out (fun _ hk => ⟨hk.1.2, hk.2⟩))); (case aS => exact (below_size (by repeat (first | (with_reducible first | exact HB.out | apply lA | apply lN | apply lD | refine lS ?_ GE103.out) | exact HB.out)))); (case aL => have := LMc23.out; omega); intro v116 w33 ho hb hg hat; rw [← Ny115.out] at ho; replace BK103 := am (blk_grown (g := gb103) (o := .cells #[.int .i64 ((rd_T27 l1 x7_1).fst), .int .i64 ((rd_T27 l1 x7_1).snd)] 27 (0, 0)) (by (with_reducible repeat (first | refine bN ?_ _ | refine bD ?_ | refine bA ?_ _)); exact BK103.out) hg (Kd.R_away HO110.out (fun _ hk => hk.2))); replace HB := am (hb); replace HR114 := am ((show Kd.C k27 w33 (some ad104) y111.length y111 from by rw [Ny111.out]; exact Kd.C_take (m := (x9_2 : Int).toNat) ((Kd.R_reads' (Kd.R_after (ok := (fun k_ => k_ ≠ gb103)) (by (with_reducible repeat (first | apply Ra | apply Rn | apply Rd)); exact HO_6.out) hg hat)).2.2) KL32.out)); replace HO_6 := am (Kd.R_after (ok := (fun k_ => k_ ≠ gb103)) (by (with_reducible repeat (first | apply Ra | apply Rn | apply Rd)); exact HO_6.out) hg hat); have HO117 := am (ho); clear HO110; clear ho hb hg hat; have hcz34_0 : w33.cell? ⟨gb103, 0, none⟩ = some (.int .i64 ((rd_T27 l1 x7_1).fst)) := (blk_cell BK103.out 0).trans rfl; have hcz34_1 : w33.cell? ⟨gb103, 1, none⟩ = some (.int .i64 ((rd_T27 l1 x7_1).snd)) := (blk_cell BK103.out 1).trans rfl; have hfz34_0 := blk_frozen BK103.out 0; have hfz34_1 := blk_frozen BK103.out 1) | ((with_reducible refine gate_builtin (b := .append) (xs := #[.tmp 78, .tmp 80]) rfl ?_); at_builtin; refine Kd.R_append k27 (w0 := w) w.heap.size rfl (.tmp 78) (.tmp 80) 24 27 (.agg #[(.int .i64 0), (.int .i64 0)]) 16 rfl Try.underlying24 info27 rfl (by decide) (by omega) v116 y115 (⟨((rd_T27 l1 x7_1).fst), ((rd_T27 l1 x7_1).snd)⟩ : IPair) [.int .i64 ((rd_T27 l1 x7_1).fst), .int .i64 ((rd_T27 l1 x7_1).snd)] (fun k_ => some k_ ≠ (.slice (some ad104) x6_1.length co28 : Value).ownBlock ∧ k_ ≠ gb103) (fun _ => False) rfl rfl ?aP (fun _ hk => hk.elim) ?aF ?aO ?aB ?aS ?aL ?_; (case aP => exact k27_mkM _ _ _ (⟨((rd_T27 l1 x7_1).fst), ((rd_T27 l1 x7_1).snd)⟩ : IPair)); (case aB => exact (by repeat (first | (with_reducible first | exact HB.out | apply lA | apply lN | apply lD | refine lS ?_ GE103.out) | exact HB.out))); (case aF => exact (fun k_ hk => ⟨Kd.fresh' (Kd.R_lt (by (with_reducible repeat (first | apply Ra | apply Rn | apply Rd)); exact HO_6.out)) k_ hk, Kd.freshB (g := gb103) (o := .cells #[.int .i64 ((rd_T27 l1 x7_1).fst), .int .i64 ((rd_T27 l1 x7_1).snd)] 27 (0, 0)) (by (with_reducible repeat (first | refine bN ?_ _ | refine bD ?_ | refine bA ?_ _)); exact BK103.out) k_ hk⟩)); (case aO => exact (by (with_reducible repeat (first | apply Ra | apply Rn | apply Rd)); exact HO117.out)); (case aS => exact (below_size (by repeat (first | (with_reducible first | exact HB.out | apply lA | apply lN | apply lD | refine lS ?_ GE103.out) | exact HB.out)))); (case aL => have := LMc24.out; omega); intro v119 w35 ho hb hg hat; rw [← Ny118.out] at ho; replace BK103 := am (blk_grown (g := gb103) (o := .cells #[.int .i64 ((rd_T27 l1 x7_1).fst), .int .i64 ((rd_T27 l1 x7_1).snd)] 27 (0, 0)) (by (with_reducible repeat (first | refine bN ?_ _ | refine bD ?_ | refine bA ?_ _)); exact BK103.out) hg (Kd.R_away HO117.out (fun _ hk => hk.2))); replace HB := am (hb); replace HR114 := am ((show Kd.C k27 w35 (some ad104) y111.length y111 from by rw [Ny111.out]; exact Kd.C_take (m := (x9_2 : Int).toNat) ((Kd.R_reads' (Kd.R_after (ok := (fun k_ => k_ ≠ gb103)) (by (with_reducible repeat (first | apply Ra | apply Rn | apply Rd)); exact HO_6.out) hg hat)).2.2) KL32.out)); replace HO_6 := am (Kd.R_after (ok := (fun k_ => k_ ≠ gb103)) (by (with_reducible repeat (first | apply Ra | apply Rn | apply Rd)); exact HO_6.out) hg hat); have HO120 := am (ho); clear HO117; clear ho hb hg hat; have q36 : (x9_2 : Int) ≤ ((x6_1.length : Int) : Int) := of_decide_eq_true (by first | (with_reducible assumption) | assumption); obtain ⟨i036, hi036, _, hsz36, _⟩ := info_parts info27; have hroom36 : x6_1.length ≤ co28 := (Kd.R_reads' HO_6.out).2.1; have hC36 : Kd.C k27 _ (some ad104) x6_1.length x6_1 := (Kd.R_reads' HO_6.out).2.2; have q036 : (0 : Int) ≤ (x9_2 : Int) := of_decide_eq_true (by first | (with_reducible assumption) | assumption); have hcut36 := cut_from (P := Try.prog) 24 27 .i64 Try.underlying24 hi036 2 hsz36 (some ad104) x6_1.length co28 x9_2 q036 q36; have hr36 := Kd.C_drop (m := (x9_2 : Int).toNat) (c := co28) hC36 (by omega) hroom36; obtain ⟨A36, hA36⟩ : ∃ A1, A1 = (if co28 = (x9_2 : Int).toNat then (some ad104) else ((some ad104) : Option Addr).map (·.add ((x9_2 : Int).toNat * 2))) := ⟨_, rfl⟩; obtain ⟨c36, hc36⟩ : ∃ c1, c1 = co28 - (x9_2 : Int).toNat := ⟨_, rfl⟩; have hy36 : y121.length = x6_1.length - (x9_2 : Int).toNat := (by rw [Ny121.out, List.length_drop] <;> omega); rw [show (x6_1).drop (x9_2 : Int).toNat = y121 from Ny121.out.symm] at hr36; replace hr36 : Kd.C k27 _ A36 y121.length y121 := (by rw [hA36]; exact hr36); rw [← hy36, ← hA36, ← hc36] at hcut36; have HR124 := am hr36; have HC124 := am (show y121.length ≤ c36 from by rw [hy36, hc36]; exact Nat.sub_le_sub_right hroom36 _); clear hr36 hC36 hroom36 hi036 hsz36 hc36; have KY36 := am hy36; have KA36 := am hA36; clear hy36 hA36; have KL36 := am (show (x9_2 : Int).toNat ≤ x6_1.length from by omega); replace q36 := eq_true q36) | ((with_reducible refine gate_builtin (b := .append) (xs := #[.tmp 82, .tmp 85]) rfl ?_); at_builtin; refine Kd.R_append_rows k27 (w0 := w) w.heap.size rfl (.tmp 82) (.tmp 85) 24 27 (.agg #[(.int .i64 0), (.int .i64 0)]) 16 rfl Try.underlying24 info27 rfl (by decide) (by omega) v119 y118 y121 _ _ _ (fun k_ => some k_ ≠ (.slice (some ad104) x6_1.length co28 : Value).ownBlock ∧ k_ ≠ gb103) (fun _ => False) rfl rfl ?aO ?aR (fun _ _ h => h) (fun _ h => h.elim) ?aF ?aB ?aS ?aL ?_; (case aR => repeat (first | exact (by repeat (first | (with_reducible exact HR124.out) | (with_reducible refine Kd.C_alloc ?_ _) | (with_reducible refine Kd.C_drewN ?_ _) | (with_reducible refine Kd.C_drew ?_) | exact HR124.out)) | (with_reducible refine Kd.C_alloc ?_ _) | (with_reducible refine Kd.C_drewN ?_ _) | (with_reducible refine Kd.C_drew ?_))); (case aB => exact (by repeat (first | (with_reducible first | exact HB.out | apply lA | apply lN | apply lD | refine lS ?_ GE103.out) | exact HB.out))); (case aF => exact (fun k_ hk => ⟨Kd.fresh' (Kd.R_lt (by (with_reducible repeat (first | apply Ra | apply Rn | apply Rd)); exact HO_6.out)) k_ hk, Kd.freshB (g := gb103) (o := .cells #[.int .i64 ((rd_T27 l1 x7_1).fst), .int .i64 ((rd_T27 l1 x7_1).snd)] 27 (0, 0)) (by (with_reducible repeat (first | refine bN ?_ _ | refine bD ?_ | refine bA ?_ _)); exact BK103.out) k_ hk⟩)); (case aO => exact (by (with_reducible repeat (first | apply Ra | apply Rn | apply Rd)); exact HO120.out)); (case aS => exact (below_size (by repeat (first | (with_reducible first | exact HB.out | apply lA | apply lN | apply lD | refine lS ?_ GE103.out) | exact HB.out)))); (case aL => have := LMc27.out; omega); intro v126 w37 ho hb hg hat; rw [← Ny125.out] at ho; replace BK103 := am (blk_grown (g := gb103) (o := .cells #[.int .i64 ((rd_T27 l1 x7_1).fst), .int .i64 ((rd_T27 l1 x7_1).snd)] 27 (0, 0)) (by (with_reducible repeat (first | refine bN ?_ _ | refine bD ?_ | refine bA ?_ _)); exact BK103.out) hg (Kd.R_away HO120.out (fun _ hk => hk.2))); replace HB := am (hb); replace HR114 := am ((show Kd.C k27 w37 (some ad104) y111.length y111 from by rw [Ny111.out]; exact Kd.C_take (m := (x9_2 : Int).toNat) ((Kd.R_reads' (Kd.R_after (ok := (fun k_ => k_ ≠ gb103)) (by (with_reducible repeat (first | apply Ra | apply Rn | apply Rd)); exact HO_6.out) hg hat)).2.2) KL32.out)); replace HR124 := am ((show Kd.C k27 w37 A36 y121.length y121 from by rw [Ny121.out, KA36.out]; exact Kd.C_drop (m := (x9_2 : Int).toNat) (c := co28) ((Kd.R_reads' (Kd.R_after (ok := (fun k_ => k_ ≠ gb103)) (by (with_reducible repeat (first | apply Ra | apply Rn | apply Rd)); exact HO_6.out) hg hat)).2.2) KL36.out ((Kd.R_reads' (Kd.R_after (ok := (fun k_ => k_ ≠ gb103)) (by (with_reducible repeat (first | apply Ra | apply Rn | apply Rd)); exact HO_6.out) hg hat)).2.1))); replace HO_6 := am (Kd.R_after (ok := (fun k_ => k_ ≠ gb103)) (by (with_reducible repeat (first | apply Ra | apply Rn | apply Rd)); exact HO_6.out) hg hat); have HO127 := am (ho); clear HO120; clear ho hb hg hat)); try go_wp2_with (first | ((with_reducible refine gate_dst (N := 73) rfl ?_); refine Kd.R_lit k27 _ 27 ?hg (N := 73) ?hd (xs := ([] : List (IPair))) (inner := []) (ok := fun _ => True) (okp := fun _ => True) ?hr ?hp (fun _ hk => hk) trivial (Below.refl _ _) (Nat.le_refl _) (by simp) ?_; (case hd => rfl); (case hg => rfl); (case hr => first | (go_simp; done) | (go_simp; rfl)); (case hp => exact (Reps.none _ _)); intro v109 w30 ho31 hb hg_ hnew_; clear hg_ hnew_; (first | rw [← Ny108.out] at ho31 | (simp only [Int.reduceToNat] at ho31; rw [← Ny108.out] at ho31)); have HO110 := am (Kd.R_lower (Kd.R_newB (Kd.R_new' ho31 (Kd.R_lt (by (with_reducible repeat (first | apply Ra | apply Rn | apply Rd)); exact HO_6.out))) (g := gb103) (o := .cells #[.int .i64 ((rd_T27 l1 x7_1).fst), .int .i64 ((rd_T27 l1 x7_1).snd)] 27 (0, 0)) (by (with_reducible repeat (first | refine bN ?_ _ | refine bD ?_ | refine bA ?_ _)); exact BK103.out)) (below_size (by repeat (first | (with_reducible first | exact HB.out | apply lA | apply lN | apply lD | refine lS ?_ GE103.out) | exact HB.out)))); replace HO_6 := am (Kd.R_elder' (by (with_reducible repeat (first | apply Ra | apply Rn | apply Rd)); exact HO_6.out) (Kd.R_base ho31) hb); replace BK103 := am (blk_below (g := gb103) (o := .cells #[.int .i64 ((rd_T27 l1 x7_1).fst), .int .i64 ((rd_T27 l1 x7_1).snd)] 27 (0, 0)) (by (with_reducible repeat (first | refine bN ?_ _ | refine bD ?_ | refine bA ?_ _)); exact BK103.out) hb); replace HB := am (below_step (by repeat (first | (with_reducible first | exact HB.out | apply lA | apply lN | apply lD | refine lS ?_ GE103.out) | exact HB.out)) hb); clear hb ho31; have q32 : (x9_2 : Int) ≤ ((x6_1.length : Int) : Int) := of_decide_eq_true (by first | (with_reducible assumption) | assumption); obtain ⟨i032, hi032, _, hsz32, _⟩ := info_parts info27; have hroom32 : x6_1.length ≤ co28 := (Kd.R_reads' HO_6.out).2.1; have hC32 : Kd.C k27 _ (some ad104) x6_1.length x6_1 := (Kd.R_reads' HO_6.out).2.2; have hcut32 := cut_to (P := Try.prog) 24 27 .i64 Try.underlying24 hi032 (some ad104) x6_1.length co28 x9_2 (of_decide_eq_true (by first | (with_reducible assumption) | assumption)) q32 hroom32; have hr32 := Kd.C_take (m := (x9_2 : Int).toNat) hC32 (by omega); have hy32 : y111.length = (x9_2 : Int).toNat := (by rw [Ny111.out, List.length_take]; omega); rw [← Ny111.out] at hr32; rw [← hy32] at hcut32; have HR114 := am hr32; have HC114 := am (show y111.length ≤ co28 from by omega); clear hr32 hC32 hroom32 hi032 hsz32; have KY32 := am hy32; clear hy32; have KL32 := am (show (x9_2 : Int).toNat ≤ x6_1.length from by omega); replace q32 := eq_true q32) | ((with_reducible refine gate_builtin (b := .append) (xs := #[.tmp 73, .tmp 76]) rfl ?_); at_builtin; refine Kd.R_append_rows k27 (w0 := w) w.heap.size rfl (.tmp 73) (.tmp 76) 24 27 (.agg #[(.int .i64 0), (.int .i64 0)]) 16 rfl Try.underlying24 info27 rfl (by decide) (by omega) v109 y108 y111 _ _ _ (fun k_ => some k_ ≠ (.slice (some ad104) x6_1.length co28 : Value).ownBlock ∧ k_ ≠ gb103) (fun _ => False) rfl rfl ?aO ?aR (fun _ _ h => h) (fun _ h => h.elim) ?aF ?aB ?aS ?aL ?_; (case aR => repeat (first | exact (by repeat (first | (with_reducible exact HR114.out) | (with_reducible refine Kd.C_alloc ?_ _) | (with_reducible refine Kd.C_drewN ?_ _) | (with_reducible refine Kd.C_drew ?_) | exact HR114.out)) | (with_reducible refine Kd.C_alloc ?_ _) | (with_reducible refine Kd.C_drewN ?_ _) | (with_reducible refine Kd.C_drew ?_))); (case aB => exact (by repeat (first | (with_reducible first | exact HB.out | apply lA | apply lN | apply lD | refine lS ?_ GE103.out) | exact HB.out))); (case aF => exact (fun k_ hk => ⟨Kd.fresh' (Kd.R_lt (by (with_reducible repeat (first | apply Ra | apply Rn | apply Rd)); exact HO_6.out)) k_ hk, Kd.freshB (g := gb103) (o := .cells #[.int .i64 ((rd_T27 l1 x7_1).fst), .int .i64 ((rd_T27 l1 x7_1).snd)] 27 (0, 0)) (by (with_reducible repeat (first | refine bN ?_ _ | refine bD ?_ | refine bA ?_ _)); exact BK103.out) k_ hk⟩)); (case aO => exact (by (with_reducible repeat (first | apply Ra | apply Rn | apply Rd)); exact Kd.R_mono HO110.out (fun _ hk => ⟨hk.1.2, hk.2⟩))); (case aS => exact (below_size (by repeat (first | (with_reducible first | exact HB.out | apply lA | apply lN | apply lD | refine lS ?_ GE103.out) | exact HB.out)))); (case aL => have := LMc23.out; omega); intro v116 w33 ho hb hg hat; rw [← Ny115.out] at ho; replace BK103 := am (blk_grown (g := gb103) (o := .cells #[.int .i64 ((rd_T27 l1 x7_1).fst), .int .i64 ((rd_T27 l1 x7_1).snd)] 27 (0, 0)) (by (with_reducible repeat (first | refine bN ?_ _ | refine bD ?_ | refine bA ?_ _)); exact BK103.out) hg (Kd.R_away HO110.out (fun _ hk => hk.2))); replace HB := am (hb); replace HR114 := am ((show Kd.C k27 w33 (some ad104) y111.length y111 from by rw [Ny111.out]; exact Kd.C_take (m := (x9_2 : Int).toNat) ((Kd.R_reads' (Kd.R_after (ok := (fun k_ => k_ ≠ gb103)) (by (with_reducible repeat (first | apply Ra | apply Rn | apply Rd)); exact HO_6.out) hg hat)).2.2) KL32.out)); replace HO_6 := am (Kd.R_after (ok := (fun k_ => k_ ≠ gb103)) (by (with_reducible repeat (first | apply Ra | apply Rn | apply Rd)); exact HO_6.out) hg hat); have HO117 := am (ho); clear HO110; clear ho hb hg hat; have hcz34_0 : w33.cell? ⟨gb103, 0, none⟩ = some (.int .i64 ((rd_T27 l1 x7_1).fst)) := (blk_cell BK103.out 0).trans rfl; have hcz34_1 : w33.cell? ⟨gb103, 1, none⟩ = some (.int .i64 ((rd_T27 l1 x7_1).snd)) := (blk_cell BK103.out 1).trans rfl; have hfz34_0 := blk_frozen BK103.out 0; have hfz34_1 := blk_frozen BK103.out 1) | ((with_reducible refine gate_builtin (b := .append) (xs := #[.tmp 78, .tmp 80]) rfl ?_); at_builtin; refine Kd.R_append k27 (w0 := w) w.heap.size rfl (.tmp 78) (.tmp 80) 24 27 (.agg #[(.int .i64 0), (.int .i64 0)]) 16 rfl Try.underlying24 info27 rfl (by decide) (by omega) v116 y115 (⟨((rd_T27 l1 x7_1).fst), ((rd_T27 l1 x7_1).snd)⟩ : IPair) [.int .i64 ((rd_T27 l1 x7_1).fst), .int .i64 ((rd_T27 l1 x7_1).snd)] (fun k_ => some k_ ≠ (.slice (some ad104) x6_1.length co28 : Value).ownBlock ∧ k_ ≠ gb103) (fun _ => False) rfl rfl ?aP (fun _ hk => hk.elim) ?aF ?aO ?aB ?aS ?aL ?_; (case aP => exact k27_mkM _ _ _ (⟨((rd_T27 l1 x7_1).fst), ((rd_T27 l1 x7_1).snd)⟩ : IPair)); (case aB => exact (by repeat (first | (with_reducible first | exact HB.out | apply lA | apply lN | apply lD | refine lS ?_ GE103.out) | exact HB.out))); (case aF => exact (fun k_ hk => ⟨Kd.fresh' (Kd.R_lt (by (with_reducible repeat (first | apply Ra | apply Rn | apply Rd)); exact HO_6.out)) k_ hk, Kd.freshB (g := gb103) (o := .cells #[.int .i64 ((rd_T27 l1 x7_1).fst), .int .i64 ((rd_T27 l1 x7_1).snd)] 27 (0, 0)) (by (with_reducible repeat (first | refine bN ?_ _ | refine bD ?_ | refine bA ?_ _)); exact BK103.out) k_ hk⟩)); (case aO => exact (by (with_reducible repeat (first | apply Ra | apply Rn | apply Rd)); exact HO117.out)); (case aS => exact (below_size (by repeat (first | (with_reducible first | exact HB.out | apply lA | apply lN | apply lD | refine lS ?_ GE103.out) | exact HB.out)))); (case aL => have := LMc24.out; omega); intro v119 w35 ho hb hg hat; rw [← Ny118.out] at ho; replace BK103 := am (blk_grown (g := gb103) (o := .cells #[.int .i64 ((rd_T27 l1 x7_1).fst), .int .i64 ((rd_T27 l1 x7_1).snd)] 27 (0, 0)) (by (with_reducible repeat (first | refine bN ?_ _ | refine bD ?_ | refine bA ?_ _)); exact BK103.out) hg (Kd.R_away HO117.out (fun _ hk => hk.2))); replace HB := am (hb); replace HR114 := am ((show Kd.C k27 w35 (some ad104) y111.length y111 from by rw [Ny111.out]; exact Kd.C_take (m := (x9_2 : Int).toNat) ((Kd.R_reads' (Kd.R_after (ok := (fun k_ => k_ ≠ gb103)) (by (with_reducible repeat (first | apply Ra | apply Rn | apply Rd)); exact HO_6.out) hg hat)).2.2) KL32.out)); replace HO_6 := am (Kd.R_after (ok := (fun k_ => k_ ≠ gb103)) (by (with_reducible repeat (first | apply Ra | apply Rn | apply Rd)); exact HO_6.out) hg hat); have HO120 := am (ho); clear HO117; clear ho hb hg hat; have q36 : (x9_2 : Int) ≤ ((x6_1.length : Int) : Int) := of_decide_eq_true (by first | (with_reducible assumption) | assumption); obtain ⟨i036, hi036, _, hsz36, _⟩ := info_parts info27; have hroom36 : x6_1.length ≤ co28 := (Kd.R_reads' HO_6.out).2.1; have hC36 : Kd.C k27 _ (some ad104) x6_1.length x6_1 := (Kd.R_reads' HO_6.out).2.2; have q036 : (0 : Int) ≤ (x9_2 : Int) := of_decide_eq_true (by first | (with_reducible assumption) | assumption); have hcut36 := cut_from (P := Try.prog) 24 27 .i64 Try.underlying24 hi036 2 hsz36 (some ad104) x6_1.length co28 x9_2 q036 q36; have hr36 := Kd.C_drop (m := (x9_2 : Int).toNat) (c := co28) hC36 (by omega) hroom36; obtain ⟨A36, hA36⟩ : ∃ A1, A1 = (if co28 = (x9_2 : Int).toNat then (some ad104) else ((some ad104) : Option Addr).map (·.add ((x9_2 : Int).toNat * 2))) := ⟨_, rfl⟩; obtain ⟨c36, hc36⟩ : ∃ c1, c1 = co28 - (x9_2 : Int).toNat := ⟨_, rfl⟩; have hy36 : y121.length = x6_1.length - (x9_2 : Int).toNat := (by rw [Ny121.out, List.length_drop] <;> omega); rw [show (x6_1).drop (x9_2 : Int).toNat = y121 from Ny121.out.symm] at hr36; replace hr36 : Kd.C k27 _ A36 y121.length y121 := (by rw [hA36]; exact hr36); rw [← hy36, ← hA36, ← hc36] at hcut36; have HR124 := am hr36; have HC124 := am (show y121.length ≤ c36 from by rw [hy36, hc36]; exact Nat.sub_le_sub_right hroom36 _); clear hr36 hC36 hroom36 hi036 hsz36 hc36; have KY36 := am hy36; have KA36 := am hA36; clear hy36 hA36; have KL36 := am (show (x9_2 : Int).toNat ≤ x6_1.length from by omega); replace q36 := eq_true q36) | ((with_reducible refine gate_builtin (b := .append) (xs := #[.tmp 82, .tmp 85]) rfl ?_); at_builtin; refine Kd.R_append_rows k27 (w0 := w) w.heap.size rfl (.tmp 82) (.tmp 85) 24 27 (.agg #[(.int .i64 0), (.int .i64 0)]) 16 rfl Try.underlying24 info27 rfl (by decide) (by omega) v119 y118 y121 _ _ _ (fun k_ => some k_ ≠ (.slice (some ad104) x6_1.length co28 : Value).ownBlock ∧ k_ ≠ gb103) (fun _ => False) rfl rfl ?aO ?aR (fun _ _ h => h) (fun _ h => h.elim) ?aF ?aB ?aS ?aL ?_; (case aR => repeat (first | exact (by repeat (first | (with_reducible exact HR124.out) | (with_reducible refine Kd.C_alloc ?_ _) | (with_reducible refine Kd.C_drewN ?_ _) | (with_reducible refine Kd.C_drew ?_) | exact HR124.out)) | (with_reducible refine Kd.C_alloc ?_ _) | (with_reducible refine Kd.C_drewN ?_ _) | (with_reducible refine Kd.C_drew ?_))); (case aB => exact (by repeat (first | (with_reducible first | exact HB.out | apply lA | apply lN | apply lD | refine lS ?_ GE103.out) | exact HB.out))); (case aF => exact (fun k_ hk => ⟨Kd.fresh' (Kd.R_lt (by (with_reducible repeat (first | apply Ra | apply Rn | apply Rd)); exact HO_6.out)) k_ hk, Kd.freshB (g := gb103) (o := .cells #[.int .i64 ((rd_T27 l1 x7_1).fst), .int .i64 ((rd_T27 l1 x7_1).snd)] 27 (0, 0)) (by (with_reducible repeat (first | refine bN ?_ _ | refine bD ?_ | refine bA ?_ _)); exact BK103.out) k_ hk⟩)); (case aO => exact (by (with_reducible repeat (first | apply Ra | apply Rn | apply Rd)); exact HO120.out)); (case aS => exact (below_size (by repeat (first | (with_reducible first | exact HB.out | apply lA | apply lN | apply lD | refine lS ?_ GE103.out) | exact HB.out)))); (case aL => have := LMc27.out; omega); intro v126 w37 ho hb hg hat; rw [← Ny125.out] at ho; replace BK103 := am (blk_grown (g := gb103) (o := .cells #[.int .i64 ((rd_T27 l1 x7_1).fst), .int .i64 ((rd_T27 l1 x7_1).snd)] 27 (0, 0)) (by (with_reducible repeat (first | refine bN ?_ _ | refine bD ?_ | refine bA ?_ _)); exact BK103.out) hg (Kd.R_away HO120.out (fun _ hk => hk.2))); replace HB := am (hb); replace HR114 := am ((show Kd.C k27 w37 (some ad104) y111.length y111 from by rw [Ny111.out]; exact Kd.C_take (m := (x9_2 : Int).toNat) ((Kd.R_reads' (Kd.R_after (ok := (fun k_ => k_ ≠ gb103)) (by (with_reducible repeat (first | apply Ra | apply Rn | apply Rd)); exact HO_6.out) hg hat)).2.2) KL32.out)); replace HR124 := am ((show Kd.C k27 w37 A36 y121.length y121 from by rw [Ny121.out, KA36.out]; exact Kd.C_drop (m := (x9_2 : Int).toNat) (c := co28) ((Kd.R_reads' (Kd.R_after (ok := (fun k_ => k_ ≠ gb103)) (by (with_reducible repeat (first | apply Ra | apply Rn | apply Rd)); exact HO_6.out) hg hat)).2.2) KL36.out ((Kd.R_reads' (Kd.R_after (ok := (fun k_ => k_ ≠ gb103)) (by (with_reducible repeat (first | apply Ra | apply Rn | apply Rd)); exact HO_6.out) hg hat)).2.1))); replace HO_6 := am (Kd.R_after (ok := (fun k_ => k_ ≠ gb103)) (by (with_reducible repeat (first | apply Ra | apply Rn | apply Rd)); exact HO_6.out) hg hat); have HO127 := am (ho); clear HO120; clear ho hb hg hat)))
                  go_roundg k2
                  case measure => have := HK1.out; have := HK2.out; omega
                  case rel => exact ⟨(y125), (wrap64 (x7_1 + 1)), (by first | rfl | (simp; done) | (simp [*]; done)), H', ⟨by have := HK1.out; have := HK2.out; omega⟩, ⟨by (with_reducible repeat (first | apply Ra | apply Rn | apply Rd)); exact Kd.R_mono HO127.out (fun _ hk => trivial)⟩, ⟨by repeat (first | (with_reducible first | exact HB.out | apply lA | apply lN | apply lD | refine lS ?_ GE103.out) | exact HB.out)⟩⟩
                 ·rw [if_neg c27] at H
                  exact absurd H (by simp)
                ·rw [if_neg c24] at H
                 exact absurd H (by simp)
               ·rw [if_neg c23] at H
                exact absurd H (by simp)
              ·rw [if_neg c22] at H
               exact absurd H (by simp)
           ·rw [if_neg c14] at H
            have c14b0 : (((rd_T27 x6_1 x9_2).fst) == ((rd_T27 l1 x7_1).fst)) = false := beq_eq_false_iff_ne.mpr c14
            have c14b1 : (((rd_T27 x6_1 x9_2).fst) != ((rd_T27 l1 x7_1).fst)) = true := bne_iff_ne.mpr c14
            by_cases c38 : (((rd_T27 x6_1 x9_2).fst) == ((rd_T27 l1 x7_1).fst) && (((rd_T27 x6_1 x9_2).snd) == ((rd_T27 l1 x7_1).snd))) = true
            ·exact absurd c38 (by rw [c14b0]; simp)
            ·rw [if_neg c38] at H
             have c38b0 : (((rd_T27 x6_1 x9_2).fst) == ((rd_T27 l1 x7_1).fst) && (((rd_T27 x6_1 x9_2).snd) == ((rd_T27 l1 x7_1).snd))) = false := by simpa using c38
             (try (have c38b1 : decide (((rd_T27 x6_1 x9_2).fst) = ((rd_T27 l1 x7_1).fst) && (((rd_T27 x6_1 x9_2).snd) == ((rd_T27 l1 x7_1).snd))) = false := by simpa using c38))
             (try (have c38b2 : (((rd_T27 x6_1 x9_2).fst) == ((rd_T27 l1 x7_1).fst) && (((rd_T27 x6_1 x9_2).snd) == ((rd_T27 l1 x7_1).snd))) = false := by simpa using c38))
             (try (have c38b3 : ¬ (((rd_T27 x6_1 x9_2).fst) = ((rd_T27 l1 x7_1).fst) && (((rd_T27 x6_1 x9_2).snd) == ((rd_T27 l1 x7_1).snd))) := by simpa using c38))
             clear c38
             obtain ⟨y129, hy129⟩ : ∃ y_ : List (IPair), y_ = (([] : List (IPair))) := ⟨_, rfl⟩
             replace H : (if x9_2 ≤ (x6_1.length : Int) then ((some (x6_1.take (x9_2 : Int).toNat : List (IPair))).bind fun y132 => (if y129.length + y132.length < 8796093022208 then ((some (y129 ++ y132 : List (IPair))).bind fun y136 => (if y136.length < 8796093022208 then ((some (y136 ++ [(⟨((rd_T27 l1 x7_1).fst), ((rd_T27 l1 x7_1).snd)⟩ : IPair)] : List (IPair))).bind fun y139 => ((some (x6_1.drop (x9_2 : Int).toNat : List (IPair))).bind fun y142 => (if y139.length + y142.length < 8796093022208 then (lambrequinref10_Clean.l0 k2 l1 (y139 ++ y142) (wrap64 (x7_1 + 1))) else (none)))) else (none))) else (none))) else (none)) = some (r1, r2) := by first | (rw [hy129]; with_reducible exact H) | (have H2_ := (Option.bind_some _ _).symm.trans H; rw [hy129]; with_reducible exact H2_) | (have H2_ := (Option.bind_some _ _).symm.trans H; with_reducible exact H2_) | with_reducible exact H | (rw [hy129]; exact H) | exact H
             have Ny129 := am hy129
             clear hy129
             have c41b0 := eq_true (of_decide_eq_true (by first | (with_reducible assumption) | assumption) : 0 ≤ x9_2)
             by_cases c42 : x9_2 ≤ (x6_1.length : Int)
             ·rw [if_pos c42] at H
              have c42b0 := eq_true c42
              have c42b1 : decide (x9_2 ≤ (x6_1.length : Int)) = true := decide_eq_true c42
              clear c42
              obtain ⟨y132, hy132⟩ : ∃ y_ : List (IPair), y_ = (x6_1.take (x9_2 : Int).toNat) := ⟨_, rfl⟩
              replace H : (if y129.length + y132.length < 8796093022208 then ((some (y129 ++ y132 : List (IPair))).bind fun y136 => (if y136.length < 8796093022208 then ((some (y136 ++ [(⟨((rd_T27 l1 x7_1).fst), ((rd_T27 l1 x7_1).snd)⟩ : IPair)] : List (IPair))).bind fun y139 => ((some (x6_1.drop (x9_2 : Int).toNat : List (IPair))).bind fun y142 => (if y139.length + y142.length < 8796093022208 then (lambrequinref10_Clean.l0 k2 l1 (y139 ++ y142) (wrap64 (x7_1 + 1))) else (none)))) else (none))) else (none)) = some (r1, r2) := by first | (rw [hy132]; with_reducible exact H) | (have H2_ := (Option.bind_some _ _).symm.trans H; rw [hy132]; with_reducible exact H2_) | (have H2_ := (Option.bind_some _ _).symm.trans H; with_reducible exact H2_) | with_reducible exact H | (rw [hy132]; exact H) | exact H
              have Ny132 := am hy132
              clear hy132
              by_cases c43 : y129.length + y132.length < 8796093022208
              ·rw [if_pos c43] at H
               have LMc43 := am c43
               clear c43
               obtain ⟨y136, hy136⟩ : ∃ y_ : List (IPair), y_ = (y129 ++ y132) := ⟨_, rfl⟩
               replace H : (if y136.length < 8796093022208 then ((some (y136 ++ [(⟨((rd_T27 l1 x7_1).fst), ((rd_T27 l1 x7_1).snd)⟩ : IPair)] : List (IPair))).bind fun y139 => ((some (x6_1.drop (x9_2 : Int).toNat : List (IPair))).bind fun y142 => (if y139.length + y142.length < 8796093022208 then (lambrequinref10_Clean.l0 k2 l1 (y139 ++ y142) (wrap64 (x7_1 + 1))) else (none)))) else (none)) = some (r1, r2) := by first | (rw [hy136]; with_reducible exact H) | (have H2_ := (Option.bind_some _ _).symm.trans H; rw [hy136]; with_reducible exact H2_) | (have H2_ := (Option.bind_some _ _).symm.trans H; with_reducible exact H2_) | with_reducible exact H | (rw [hy136]; exact H) | exact H
               have Ny136 := am hy136
               clear hy136
               by_cases c44 : y136.length < 8796093022208
               ·rw [if_pos c44] at H
                have LMc44 := am c44
                clear c44
                obtain ⟨y139, hy139⟩ : ∃ y_ : List (IPair), y_ = (y136 ++ [(⟨((rd_T27 l1 x7_1).fst), ((rd_T27 l1 x7_1).snd)⟩ : IPair)]) := ⟨_, rfl⟩
                replace H : ((some (x6_1.drop (x9_2 : Int).toNat : List (IPair))).bind fun y142 => (if y139.length + y142.length < 8796093022208 then (lambrequinref10_Clean.l0 k2 l1 (y139 ++ y142) (wrap64 (x7_1 + 1))) else (none))) = some (r1, r2) := by first | (rw [hy139]; with_reducible exact H) | (have H2_ := (Option.bind_some _ _).symm.trans H; rw [hy139]; with_reducible exact H2_) | (have H2_ := (Option.bind_some _ _).symm.trans H; with_reducible exact H2_) | with_reducible exact H | (rw [hy139]; exact H) | exact H
                have Ny139 := am hy139
                clear hy139
                have c45b0 := eq_true (of_decide_eq_true (by first | (with_reducible assumption) | assumption) : 0 ≤ x9_2)
                have c46b0 := eq_true (of_decide_eq_true (by first | (with_reducible assumption) | assumption) : x9_2 ≤ (x6_1.length : Int))
                obtain ⟨y142, hy142⟩ : ∃ y_ : List (IPair), y_ = (x6_1.drop (x9_2 : Int).toNat) := ⟨_, rfl⟩
                replace H : (if y139.length + y142.length < 8796093022208 then (lambrequinref10_Clean.l0 k2 l1 (y139 ++ y142) (wrap64 (x7_1 + 1))) else (none)) = some (r1, r2) := by first | (rw [hy142]; with_reducible exact H) | (have H2_ := (Option.bind_some _ _).symm.trans H; rw [hy142]; with_reducible exact H2_) | (have H2_ := (Option.bind_some _ _).symm.trans H; with_reducible exact H2_) | with_reducible exact H | (rw [hy142]; exact H) | exact H
                have Ny142 := am hy142
                clear hy142
                by_cases c47 : y139.length + y142.length < 8796093022208
                ·rw [if_pos c47] at H
                 have LMc47 := am c47
                 clear c47
                 obtain ⟨y146, hy146⟩ : ∃ y_ : List (IPair), y_ = (y139 ++ y142) := ⟨_, rfl⟩
                 replace H : (lambrequinref10_Clean.l0 k2 l1 y146 (wrap64 (x7_1 + 1))) = some (r1, r2) := by first | (rw [hy146]; with_reducible exact H) | (have H2_ := (Option.bind_some _ _).symm.trans H; rw [hy146]; with_reducible exact H2_) | (have H2_ := (Option.bind_some _ _).symm.trans H; with_reducible exact H2_) | with_reducible exact H | (rw [hy146]; exact H) | exact H
                 have Ny146 := am hy146
                 clear hy146
                 have H' := am H
                 clear H
                 obtain ⟨Ao48, co48, eo48⟩ := Kd.R_slice HO_6.out
                 (first | subst eo48 | (injection eo48 with f1_ f2_ f3_; have f4_ := f1_.symm; have f5_ := f3_.symm; clear f1_ f2_ f3_; subst f4_; subst f5_))
                 have p104 : 0 ≤ (x9_2 : Int) := of_decide_eq_true (by first | (with_reducible assumption) | assumption)
                 have q104 : x9_2 < (x6_1.length : Int) := of_decide_eq_true (by first | (with_reducible assumption) | assumption)
                 obtain ⟨ad104, e104, hx104_0, hx104_1⟩ := at_T27 (Kd.R_reads' HO_6.out).2.2 x9_2 p104 q104
                 cases e104
                 replace p104 := eq_true p104
                 replace q104 := eq_true q104
                 have hcz49_0 : wr.cell? ⟨gb103, 0, none⟩ = some (.int .i64 ((rd_T27 l1 x7_1).fst)) := (blk_cell BK103.out 0).trans rfl
                 have hcz49_1 : wr.cell? ⟨gb103, 1, none⟩ = some (.int .i64 ((rd_T27 l1 x7_1).snd)) := (blk_cell BK103.out 1).trans rfl
                 have hfz49_0 := blk_frozen BK103.out 0
                 have hfz49_1 := blk_frozen BK103.out 1
                 have p105 : 0 ≤ (x9_2 : Int) := of_decide_eq_true (by first | (with_reducible assumption) | assumption)
                 have q105 : x9_2 < (x6_1.length : Int) := of_decide_eq_true (by first | (with_reducible assumption) | assumption)
                 obtain ⟨ad105, e105, hx105_0, hx105_1⟩ := at_T27 (Kd.R_reads' HO_6.out).2.2 x9_2 p105 q105
                 obtain rfl : ad104 = ad105 := (by injection e105)
                 replace p105 := eq_true p105
                 replace q105 := eq_true q105
                 have p128 : 0 ≤ (x9_2 : Int) := of_decide_eq_true (by first | (with_reducible assumption) | assumption)
                 have q128 : x9_2 < (x6_1.length : Int) := of_decide_eq_true (by first | (with_reducible assumption) | assumption)
                 obtain ⟨ad128, e128, hx128_0, hx128_1⟩ := at_T27 (Kd.R_reads' HO_6.out).2.2 x9_2 p128 q128
                 obtain rfl : ad104 = ad128 := (by injection e128)
                 replace p128 := eq_true p128
                 replace q128 := eq_true q128
                 go_wp2_with (first | ((with_reducible refine gate_dst (N := 73) rfl ?_); refine Kd.R_lit k27 _ 27 ?hg (N := 73) ?hd (xs := ([] : List (IPair))) (inner := []) (ok := fun _ => True) (okp := fun _ => True) ?hr ?hp (fun _ hk => hk) trivial (Below.refl _ _) (Nat.le_refl _) (by simp) ?_; (case hd => rfl); (case hg => rfl); (case hr => first | (go_simp; done) | (go_simp; rfl)); (case hp => exact (Reps.none _ _)); intro v130 w50 ho51 hb hg_ hnew_; clear hg_ hnew_; (first | rw [← Ny129.out] at ho51 | (simp only [Int.reduceToNat] at ho51; rw [← Ny129.out] at ho51)); have HO131 := am (Kd.R_lower (Kd.R_newB (Kd.R_new' ho51 (Kd.R_lt (by (with_reducible repeat (first | apply Ra | apply Rn | apply Rd)); exact HO_6.out))) (g := gb103) (o := .cells #[.int .i64 ((rd_T27 l1 x7_1).fst), .int .i64 ((rd_T27 l1 x7_1).snd)] 27 (0, 0)) (by (with_reducible repeat (first | refine bN ?_ _ | refine bD ?_ | refine bA ?_ _)); exact BK103.out)) (below_size (by repeat (first | (with_reducible first | exact HB.out | apply lA | apply lN | apply lD | refine lS ?_ GE103.out) | exact HB.out)))); replace HO_6 := am (Kd.R_elder' (by (with_reducible repeat (first | apply Ra | apply Rn | apply Rd)); exact HO_6.out) (Kd.R_base ho51) hb); replace BK103 := am (blk_below (g := gb103) (o := .cells #[.int .i64 ((rd_T27 l1 x7_1).fst), .int .i64 ((rd_T27 l1 x7_1).snd)] 27 (0, 0)) (by (with_reducible repeat (first | refine bN ?_ _ | refine bD ?_ | refine bA ?_ _)); exact BK103.out) hb); replace HB := am (below_step (by repeat (first | (with_reducible first | exact HB.out | apply lA | apply lN | apply lD | refine lS ?_ GE103.out) | exact HB.out)) hb); clear hb ho51; have q52 : (x9_2 : Int) ≤ ((x6_1.length : Int) : Int) := of_decide_eq_true (by first | (with_reducible assumption) | assumption); obtain ⟨i052, hi052, _, hsz52, _⟩ := info_parts info27; have hroom52 : x6_1.length ≤ co48 := (Kd.R_reads' HO_6.out).2.1; have hC52 : Kd.C k27 _ (some ad104) x6_1.length x6_1 := (Kd.R_reads' HO_6.out).2.2; have hcut52 := cut_to (P := Try.prog) 24 27 .i64 Try.underlying24 hi052 (some ad104) x6_1.length co48 x9_2 (of_decide_eq_true (by first | (with_reducible assumption) | assumption)) q52 hroom52; have hr52 := Kd.C_take (m := (x9_2 : Int).toNat) hC52 (by omega); have hy52 : y132.length = (x9_2 : Int).toNat := (by rw [Ny132.out, List.length_take]; omega); rw [← Ny132.out] at hr52; rw [← hy52] at hcut52; have HR135 := am hr52; have HC135 := am (show y132.length ≤ co48 from by omega); clear hr52 hC52 hroom52 hi052 hsz52; have KY52 := am hy52; clear hy52; have KL52 := am (show (x9_2 : Int).toNat ≤ x6_1.length from by omega); replace q52 := eq_true q52) | ((with_reducible refine gate_builtin (b := .append) (xs := #[.tmp 73, .tmp 76]) rfl ?_); at_builtin; refine Kd.R_append_rows k27 (w0 := w) w.heap.size rfl (.tmp 73) (.tmp 76) 24 27 (.agg #[(.int .i64 0), (.int .i64 0)]) 16 rfl Try.underlying24 info27 rfl (by decide) (by omega) v130 y129 y132 _ _ _ (fun k_ => some k_ ≠ (.slice (some ad104) x6_1.length co48 : Value).ownBlock ∧ k_ ≠ gb103) (fun _ => False) rfl rfl ?aO ?aR (fun _ _ h => h) (fun _ h => h.elim) ?aF ?aB ?aS ?aL ?_; (case aR => repeat (first | exact (by repeat (first | (with_reducible exact HR135.out) | (with_reducible refine Kd.C_alloc ?_ _) | (with_reducible refine Kd.C_drewN ?_ _) | (with_reducible refine Kd.C_drew ?_) | exact HR135.out)) | (with_reducible refine Kd.C_alloc ?_ _) | (with_reducible refine Kd.C_drewN ?_ _) | (with_reducible refine Kd.C_drew ?_))); (case aB => exact (by repeat (first | (with_reducible first | exact HB.out | apply lA | apply lN | apply lD | refine lS ?_ GE103.out) | exact HB.out))); (case aF => exact (fun k_ hk => ⟨Kd.fresh' (Kd.R_lt (by (with_reducible repeat (first | apply Ra | apply Rn | apply Rd)); exact HO_6.out)) k_ hk, Kd.freshB (g := gb103) (o := .cells #[.int .i64 ((rd_T27 l1 x7_1).fst), .int .i64 ((rd_T27 l1 x7_1).snd)] 27 (0, 0)) (by (with_reducible repeat (first | refine bN ?_ _ | refine bD ?_ | refine bA ?_ _)); exact BK103.out) k_ hk⟩)); (case aO => exact (by (with_reducible repeat (first | apply Ra | apply Rn | apply Rd)); exact Kd.R_mono HO131.out (fun _ hk => ⟨hk.1.2, hk.2⟩))); (case aS => exact (below_size (by repeat (first | (with_reducible first | exact HB.out | apply lA | apply lN | apply lD | refine lS ?_ GE103.out) | exact HB.out)))); (case aL => have := LMc43.out; omega); intro v137 w53 ho hb hg hat; rw [← Ny136.out] at ho; replace BK103 := am (blk_grown (g := gb103) (o := .cells #[.int .i64 ((rd_T27 l1 x7_1).fst), .int .i64 ((rd_T27 l1 x7_1).snd)] 27 (0, 0)) (by (with_reducible repeat (first | refine bN ?_ _ | refine bD ?_ | refine bA ?_ _)); exact BK103.out) hg (Kd.R_away HO131.out (fun _ hk => hk.2))); replace HB := am (hb); replace HR135 := am ((show Kd.C k27 w53 (some ad104) y132.length y132 from by rw [Ny132.out]; exact Kd.C_take (m := (x9_2 : Int).toNat) ((Kd.R_reads' (Kd.R_after (ok := (fun k_ => k_ ≠ gb103)) (by (with_reducible repeat (first | apply Ra | apply Rn | apply Rd)); exact HO_6.out) hg hat)).2.2) KL52.out)); replace HO_6 := am (Kd.R_after (ok := (fun k_ => k_ ≠ gb103)) (by (with_reducible repeat (first | apply Ra | apply Rn | apply Rd)); exact HO_6.out) hg hat); have HO138 := am (ho); clear HO131; clear ho hb hg hat; have hcz54_0 : w53.cell? ⟨gb103, 0, none⟩ = some (.int .i64 ((rd_T27 l1 x7_1).fst)) := (blk_cell BK103.out 0).trans rfl; have hcz54_1 : w53.cell? ⟨gb103, 1, none⟩ = some (.int .i64 ((rd_T27 l1 x7_1).snd)) := (blk_cell BK103.out 1).trans rfl; have hfz54_0 := blk_frozen BK103.out 0; have hfz54_1 := blk_frozen BK103.out 1) | ((with_reducible refine gate_builtin (b := .append) (xs := #[.tmp 78, .tmp 80]) rfl ?_); at_builtin; refine Kd.R_append k27 (w0 := w) w.heap.size rfl (.tmp 78) (.tmp 80) 24 27 (.agg #[(.int .i64 0), (.int .i64 0)]) 16 rfl Try.underlying24 info27 rfl (by decide) (by omega) v137 y136 (⟨((rd_T27 l1 x7_1).fst), ((rd_T27 l1 x7_1).snd)⟩ : IPair) [.int .i64 ((rd_T27 l1 x7_1).fst), .int .i64 ((rd_T27 l1 x7_1).snd)] (fun k_ => some k_ ≠ (.slice (some ad104) x6_1.length co48 : Value).ownBlock ∧ k_ ≠ gb103) (fun _ => False) rfl rfl ?aP (fun _ hk => hk.elim) ?aF ?aO ?aB ?aS ?aL ?_; (case aP => exact k27_mkM _ _ _ (⟨((rd_T27 l1 x7_1).fst), ((rd_T27 l1 x7_1).snd)⟩ : IPair)); (case aB => exact (by repeat (first | (with_reducible first | exact HB.out | apply lA | apply lN | apply lD | refine lS ?_ GE103.out) | exact HB.out))); (case aF => exact (fun k_ hk => ⟨Kd.fresh' (Kd.R_lt (by (with_reducible repeat (first | apply Ra | apply Rn | apply Rd)); exact HO_6.out)) k_ hk, Kd.freshB (g := gb103) (o := .cells #[.int .i64 ((rd_T27 l1 x7_1).fst), .int .i64 ((rd_T27 l1 x7_1).snd)] 27 (0, 0)) (by (with_reducible repeat (first | refine bN ?_ _ | refine bD ?_ | refine bA ?_ _)); exact BK103.out) k_ hk⟩)); (case aO => exact (by (with_reducible repeat (first | apply Ra | apply Rn | apply Rd)); exact HO138.out)); (case aS => exact (below_size (by repeat (first | (with_reducible first | exact HB.out | apply lA | apply lN | apply lD | refine lS ?_ GE103.out) | exact HB.out)))); (case aL => have := LMc44.out; omega); intro v140 w55 ho hb hg hat; rw [← Ny139.out] at ho; replace BK103 := am (blk_grown (g := gb103) (o := .cells #[.int .i64 ((rd_T27 l1 x7_1).fst), .int .i64 ((rd_T27 l1 x7_1).snd)] 27 (0, 0)) (by (with_reducible repeat (first | refine bN ?_ _ | refine bD ?_ | refine bA ?_ _)); exact BK103.out) hg (Kd.R_away HO138.out (fun _ hk => hk.2))); replace HB := am (hb); replace HR135 := am ((show Kd.C k27 w55 (some ad104) y132.length y132 from by rw [Ny132.out]; exact Kd.C_take (m := (x9_2 : Int).toNat) ((Kd.R_reads' (Kd.R_after (ok := (fun k_ => k_ ≠ gb103)) (by (with_reducible repeat (first | apply Ra | apply Rn | apply Rd)); exact HO_6.out) hg hat)).2.2) KL52.out)); replace HO_6 := am (Kd.R_after (ok := (fun k_ => k_ ≠ gb103)) (by (with_reducible repeat (first | apply Ra | apply Rn | apply Rd)); exact HO_6.out) hg hat); have HO141 := am (ho); clear HO138; clear ho hb hg hat; have q56 : (x9_2 : Int) ≤ ((x6_1.length : Int) : Int) := of_decide_eq_true (by first | (with_reducible assumption) | assumption); obtain ⟨i056, hi056, _, hsz56, _⟩ := info_parts info27; have hroom56 : x6_1.length ≤ co48 := (Kd.R_reads' HO_6.out).2.1; have hC56 : Kd.C k27 _ (some ad104) x6_1.length x6_1 := (Kd.R_reads' HO_6.out).2.2; have q056 : (0 : Int) ≤ (x9_2 : Int) := of_decide_eq_true (by first | (with_reducible assumption) | assumption); have hcut56 := cut_from (P := Try.prog) 24 27 .i64 Try.underlying24 hi056 2 hsz56 (some ad104) x6_1.length co48 x9_2 q056 q56; have hr56 := Kd.C_drop (m := (x9_2 : Int).toNat) (c := co48) hC56 (by omega) hroom56; obtain ⟨A56, hA56⟩ : ∃ A1, A1 = (if co48 = (x9_2 : Int).toNat then (some ad104) else ((some ad104) : Option Addr).map (·.add ((x9_2 : Int).toNat * 2))) := ⟨_, rfl⟩; obtain ⟨c56, hc56⟩ : ∃ c1, c1 = co48 - (x9_2 : Int).toNat := ⟨_, rfl⟩; have hy56 : y142.length = x6_1.length - (x9_2 : Int).toNat := (by rw [Ny142.out, List.length_drop] <;> omega); rw [show (x6_1).drop (x9_2 : Int).toNat = y142 from Ny142.out.symm] at hr56; replace hr56 : Kd.C k27 _ A56 y142.length y142 := (by rw [hA56]; exact hr56); rw [← hy56, ← hA56, ← hc56] at hcut56; have HR145 := am hr56; have HC145 := am (show y142.length ≤ c56 from by rw [hy56, hc56]; exact Nat.sub_le_sub_right hroom56 _); clear hr56 hC56 hroom56 hi056 hsz56 hc56; have KY56 := am hy56; have KA56 := am hA56; clear hy56 hA56; have KL56 := am (show (x9_2 : Int).toNat ≤ x6_1.length from by omega); replace q56 := eq_true q56) | ((with_reducible refine gate_builtin (b := .append) (xs := #[.tmp 82, .tmp 85]) rfl ?_); at_builtin; refine Kd.R_append_rows k27 (w0 := w) w.heap.size rfl (.tmp 82) (.tmp 85) 24 27 (.agg #[(.int .i64 0), (.int .i64 0)]) 16 rfl Try.underlying24 info27 rfl (by decide) (by omega) v140 y139 y142 _ _ _ (fun k_ => some k_ ≠ (.slice (some ad104) x6_1.length co48 : Value).ownBlock ∧ k_ ≠ gb103) (fun _ => False) rfl rfl ?aO ?aR (fun _ _ h => h) (fun _ h => h.elim) ?aF ?aB ?aS ?aL ?_; (case aR => repeat (first | exact (by repeat (first | (with_reducible exact HR145.out) | (with_reducible refine Kd.C_alloc ?_ _) | (with_reducible refine Kd.C_drewN ?_ _) | (with_reducible refine Kd.C_drew ?_) | exact HR145.out)) | (with_reducible refine Kd.C_alloc ?_ _) | (with_reducible refine Kd.C_drewN ?_ _) | (with_reducible refine Kd.C_drew ?_))); (case aB => exact (by repeat (first | (with_reducible first | exact HB.out | apply lA | apply lN | apply lD | refine lS ?_ GE103.out) | exact HB.out))); (case aF => exact (fun k_ hk => ⟨Kd.fresh' (Kd.R_lt (by (with_reducible repeat (first | apply Ra | apply Rn | apply Rd)); exact HO_6.out)) k_ hk, Kd.freshB (g := gb103) (o := .cells #[.int .i64 ((rd_T27 l1 x7_1).fst), .int .i64 ((rd_T27 l1 x7_1).snd)] 27 (0, 0)) (by (with_reducible repeat (first | refine bN ?_ _ | refine bD ?_ | refine bA ?_ _)); exact BK103.out) k_ hk⟩)); (case aO => exact (by (with_reducible repeat (first | apply Ra | apply Rn | apply Rd)); exact HO141.out)); (case aS => exact (below_size (by repeat (first | (with_reducible first | exact HB.out | apply lA | apply lN | apply lD | refine lS ?_ GE103.out) | exact HB.out)))); (case aL => have := LMc47.out; omega); intro v147 w57 ho hb hg hat; rw [← Ny146.out] at ho; replace BK103 := am (blk_grown (g := gb103) (o := .cells #[.int .i64 ((rd_T27 l1 x7_1).fst), .int .i64 ((rd_T27 l1 x7_1).snd)] 27 (0, 0)) (by (with_reducible repeat (first | refine bN ?_ _ | refine bD ?_ | refine bA ?_ _)); exact BK103.out) hg (Kd.R_away HO141.out (fun _ hk => hk.2))); replace HB := am (hb); replace HR135 := am ((show Kd.C k27 w57 (some ad104) y132.length y132 from by rw [Ny132.out]; exact Kd.C_take (m := (x9_2 : Int).toNat) ((Kd.R_reads' (Kd.R_after (ok := (fun k_ => k_ ≠ gb103)) (by (with_reducible repeat (first | apply Ra | apply Rn | apply Rd)); exact HO_6.out) hg hat)).2.2) KL52.out)); replace HR145 := am ((show Kd.C k27 w57 A56 y142.length y142 from by rw [Ny142.out, KA56.out]; exact Kd.C_drop (m := (x9_2 : Int).toNat) (c := co48) ((Kd.R_reads' (Kd.R_after (ok := (fun k_ => k_ ≠ gb103)) (by (with_reducible repeat (first | apply Ra | apply Rn | apply Rd)); exact HO_6.out) hg hat)).2.2) KL56.out ((Kd.R_reads' (Kd.R_after (ok := (fun k_ => k_ ≠ gb103)) (by (with_reducible repeat (first | apply Ra | apply Rn | apply Rd)); exact HO_6.out) hg hat)).2.1))); replace HO_6 := am (Kd.R_after (ok := (fun k_ => k_ ≠ gb103)) (by (with_reducible repeat (first | apply Ra | apply Rn | apply Rd)); exact HO_6.out) hg hat); have HO148 := am (ho); clear HO141; clear ho hb hg hat))
                 repeat (go_quiet (first | ((with_reducible refine gate_dst (N := 73) rfl ?_); refine Kd.R_lit k27 _ 27 ?hg (N := 73) ?hd (xs := ([] : List (IPair))) (inner := []) (ok := fun _ => True) (okp := fun _ => True) ?hr ?hp (fun _ hk => hk) trivial (Below.refl _ _) (Nat.le_refl _) (by simp) ?_; (case hd => rfl); (case hg => rfl); (case hr => first | (go_simp; done) | (go_simp; rfl)); (case hp => exact (Reps.none _ _)); intro v130 w50 ho51 hb hg_ hnew_; clear hg_ hnew_; (first | rw [← Ny129.out] at ho51 | (simp only [Int.reduceToNat] at ho51; rw [← Ny129.out] at ho51)); have HO131 := am (Kd.R_lower (Kd.R_newB (Kd.R_new' ho51 (Kd.R_lt (by (with_reducible repeat (first | apply Ra | apply Rn | apply Rd)); exact HO_6.out))) (g := gb103) (o := .cells #[.int .i64 ((rd_T27 l1 x7_1).fst), .int .i64 ((rd_T27 l1 x7_1).snd)] 27 (0, 0)) (by (with_reducible repeat (first | refine bN ?_ _ | refine bD ?_ | refine bA ?_ _)); exact BK103.out)) (below_size (by repeat (first | (with_reducible first | exact HB.out | apply lA | apply lN | apply lD | refine lS ?_ GE103.out) | exact HB.out)))); replace HO_6 := am (Kd.R_elder' (by (with_reducible repeat (first | apply Ra | apply Rn | apply Rd)); exact HO_6.out) (Kd.R_base ho51) hb); replace BK103 := am (blk_below (g := gb103) (o := .cells #[.int .i64 ((rd_T27 l1 x7_1).fst), .int .i64 ((rd_T27 l1 x7_1).snd)] 27 (0, 0)) (by (with_reducible repeat (first | refine bN ?_ _ | refine bD ?_ | refine bA ?_ _)); exact BK103.out) hb); replace HB := am (below_step (by repeat (first | (with_reducible first | exact HB.out | apply lA | apply lN | apply lD | refine lS ?_ GE103.out) | exact HB.out)) hb); clear hb ho51; have q52 : (x9_2 : Int) ≤ ((x6_1.length : Int) : Int) := of_decide_eq_true (by first | (with_reducible assumption) | assumption); obtain ⟨i052, hi052, _, hsz52, _⟩ := info_parts info27; have hroom52 : x6_1.length ≤ co48 := (Kd.R_reads' HO_6.out).2.1; have hC52 : Kd.C k27 _ (some ad104) x6_1.length x6_1 := (Kd.R_reads' HO_6.out).2.2; have hcut52 := cut_to (P := Try.prog) 24 27 .i64 Try.underlying24 hi052 (some ad104) x6_1.length co48 x9_2 (of_decide_eq_true (by first | (with_reducible assumption) | assumption)) q52 hroom52; have hr52 := Kd.C_take (m := (x9_2 : Int).toNat) hC52 (by omega); have hy52 : y132.length = (x9_2 : Int).toNat := (by rw [Ny132.out, List.length_take]; omega); rw [← Ny132.out] at hr52; rw [← hy52] at hcut52; have HR135 := am hr52; have HC135 := am (show y132.length ≤ co48 from by omega); clear hr52 hC52 hroom52 hi052 hsz52; have KY52 := am hy52; clear hy52; have KL52 := am (show (x9_2 : Int).toNat ≤ x6_1.length from by omega); replace q52 := eq_true q52) | ((with_reducible refine gate_builtin (b := .append) (xs := #[.tmp 73, .tmp 76]) rfl ?_); at_builtin; refine Kd.R_append_rows k27 (w0 := w) w.heap.size rfl (.tmp 73) (.tmp 76) 24 27 (.agg #[(.int .i64 0), (.int .i64 0)]) 16 rfl Try.underlying24 info27 rfl (by decide) (by omega) v130 y129 y132 _ _ _ (fun k_ => some k_ ≠ (.slice (some ad104) x6_1.length co48 : Value).ownBlock ∧ k_ ≠ gb103) (fun _ => False) rfl rfl ?aO ?aR (fun _ _ h => h) (fun _ h => h.elim) ?aF ?aB ?aS ?aL ?_; (case aR => repeat (first | exact (by repeat (first | (with_reducible exact HR135.out) | (with_reducible refine Kd.C_alloc ?_ _) | (with_reducible refine Kd.C_drewN ?_ _) | (with_reducible refine Kd.C_drew ?_) | exact HR135.out)) | (with_reducible refine Kd.C_alloc ?_ _) | (with_reducible refine Kd.C_drewN ?_ _) | (with_reducible refine Kd.C_drew ?_))); (case aB => exact (by repeat (first | (with_reducible first | exact HB.out | apply lA | apply lN | apply lD | refine lS ?_ GE103.out) | exact HB.out))); (case aF => exact (fun k_ hk => ⟨Kd.fresh' (Kd.R_lt (by (with_reducible repeat (first | apply Ra | apply Rn | apply Rd)); exact HO_6.out)) k_ hk, Kd.freshB (g := gb103) (o := .cells #[.int .i64 ((rd_T27 l1 x7_1).fst), .int .i64 ((rd_T27 l1 x7_1).snd)] 27 (0, 0)) (by (with_reducible repeat (first | refine bN ?_ _ | refine bD ?_ | refine bA ?_ _)); exact BK103.out) k_ hk⟩)); (case aO => exact (by (with_reducible repeat (first | apply Ra | apply Rn | apply Rd)); exact Kd.R_mono HO131.out (fun _ hk => ⟨hk.1.2, hk.2⟩))); (case aS => exact (below_size (by repeat (first | (with_reducible first | exact HB.out | apply lA | apply lN | apply lD | refine lS ?_ GE103.out) | exact HB.out)))); (case aL => have := LMc43.out; omega); intro v137 w53 ho hb hg hat; rw [← Ny136.out] at ho; replace BK103 := am (blk_grown (g := gb103) (o := .cells #[.int .i64 ((rd_T27 l1 x7_1).fst), .int .i64 ((rd_T27 l1 x7_1).snd)] 27 (0, 0)) (by (with_reducible repeat (first | refine bN ?_ _ | refine bD ?_ | refine bA ?_ _)); exact BK103.out) hg (Kd.R_away HO131.out (fun _ hk => hk.2))); replace HB := am (hb); replace HR135 := am ((show Kd.C k27 w53 (some ad104) y132.length y132 from by rw [Ny132.out]; exact Kd.C_take (m := (x9_2 : Int).toNat) ((Kd.R_reads' (Kd.R_after (ok := (fun k_ => k_ ≠ gb103)) (by (with_reducible repeat (first | apply Ra | apply Rn | apply Rd)); exact HO_6.out) hg hat)).2.2) KL52.out)); replace HO_6 := am (Kd.R_after (ok := (fun k_ => k_ ≠ gb103)) (by (with_reducible repeat (first | apply Ra | apply Rn | apply Rd)); exact HO_6.out) hg hat); have HO138 := am (ho); clear HO131; clear ho hb hg hat; have hcz54_0 : w53.cell? ⟨gb103, 0, none⟩ = some (.int .i64 ((rd_T27 l1 x7_1).fst)) := (blk_cell BK103.out 0).trans rfl; have hcz54_1 : w53.cell? ⟨gb103, 1, none⟩ = some (.int .i64 ((rd_T27 l1 x7_1).snd)) := (blk_cell BK103.out 1).trans rfl; have hfz54_0 := blk_frozen BK103.out 0; have hfz54_1 := blk_frozen BK103.out 1) | ((with_reducible refine gate_builtin (b := .append) (xs := #[.tmp 78, .tmp 80]) rfl ?_); at_builtin; refine Kd.R_append k27 (w0 := w) w.heap.size rfl (.tmp 78) (.tmp 80) 24 27 (.agg #[(.int .i64 0), (.int .i64 0)]) 16 rfl Try.underlying24 info27 rfl (by decide) (by omega) v137 y136 (⟨((rd_T27 l1 x7_1).fst), ((rd_T27 l1 x7_1).snd)⟩ : IPair) [.int .i64 ((rd_T27 l1 x7_1).fst), .int .i64 ((rd_T27 l1 x7_1).snd)] (fun k_ => some k_ ≠ (.slice (some ad104) x6_1.length co48 : Value).ownBlock ∧ k_ ≠ gb103) (fun _ => False) rfl rfl ?aP (fun _ hk => hk.elim) ?aF ?aO ?aB ?aS ?aL ?_; (case aP => exact k27_mkM _ _ _ (⟨((rd_T27 l1 x7_1).fst), ((rd_T27 l1 x7_1).snd)⟩ : IPair)); (case aB => exact (by repeat (first | (with_reducible first | exact HB.out | apply lA | apply lN | apply lD | refine lS ?_ GE103.out) | exact HB.out))); (case aF => exact (fun k_ hk => ⟨Kd.fresh' (Kd.R_lt (by (with_reducible repeat (first | apply Ra | apply Rn | apply Rd)); exact HO_6.out)) k_ hk, Kd.freshB (g := gb103) (o := .cells #[.int .i64 ((rd_T27 l1 x7_1).fst), .int .i64 ((rd_T27 l1 x7_1).snd)] 27 (0, 0)) (by (with_reducible repeat (first | refine bN ?_ _ | refine bD ?_ | refine bA ?_ _)); exact BK103.out) k_ hk⟩)); (case aO => exact (by (with_reducible repeat (first | apply Ra | apply Rn | apply Rd)); exact HO138.out)); (case aS => exact (below_size (by repeat (first | (with_reducible first | exact HB.out | apply lA | apply lN | apply lD | refine lS ?_ GE103.out) | exact HB.out)))); (case aL => have := LMc44.out; omega); intro v140 w55 ho hb hg hat; rw [← Ny139.out] at ho; replace BK103 := am (blk_grown (g := gb103) (o := .cells #[.int .i64 ((rd_T27 l1 x7_1).fst), .int .i64 ((rd_T27 l1 x7_1).snd)] 27 (0, 0)) (by (with_reducible repeat (first | refine bN ?_ _ | refine bD ?_ | refine bA ?_ _)); exact BK103.out) hg (Kd.R_away HO138.out (fun _ hk => hk.2))); replace HB := am (hb); replace HR135 := am ((show Kd.C k27 w55 (some ad104) y132.length y132 from by rw [Ny132.out]; exact Kd.C_take (m := (x9_2 : Int).toNat) ((Kd.R_reads' (Kd.R_after (ok := (fun k_ => k_ ≠ gb103)) (by (with_reducible repeat (first | apply Ra | apply Rn | apply Rd)); exact HO_6.out) hg hat)).2.2) KL52.out)); replace HO_6 := am (Kd.R_after (ok := (fun k_ => k_ ≠ gb103)) (by (with_reducible repeat (first | apply Ra | apply Rn | apply Rd)); exact HO_6.out) hg hat); have HO141 := am (ho); clear HO138; clear ho hb hg hat; have q56 : (x9_2 : Int) ≤ ((x6_1.length : Int) : Int) := of_decide_eq_true (by first | (with_reducible assumption) | assumption); obtain ⟨i056, hi056, _, hsz56, _⟩ := info_parts info27; have hroom56 : x6_1.length ≤ co48 := (Kd.R_reads' HO_6.out).2.1; have hC56 : Kd.C k27 _ (some ad104) x6_1.length x6_1 := (Kd.R_reads' HO_6.out).2.2; have q056 : (0 : Int) ≤ (x9_2 : Int) := of_decide_eq_true (by first | (with_reducible assumption) | assumption); have hcut56 := cut_from (P := Try.prog) 24 27 .i64 Try.underlying24 hi056 2 hsz56 (some ad104) x6_1.length co48 x9_2 q056 q56; have hr56 := Kd.C_drop (m := (x9_2 : Int).toNat) (c := co48) hC56 (by omega) hroom56; obtain ⟨A56, hA56⟩ : ∃ A1, A1 = (if co48 = (x9_2 : Int).toNat then (some ad104) else ((some ad104) : Option Addr).map (·.add ((x9_2 : Int).toNat * 2))) := ⟨_, rfl⟩; obtain ⟨c56, hc56⟩ : ∃ c1, c1 = co48 - (x9_2 : Int).toNat := ⟨_, rfl⟩; have hy56 : y142.length = x6_1.length - (x9_2 : Int).toNat := (by rw [Ny142.out, List.length_drop] <;> omega); rw [show (x6_1).drop (x9_2 : Int).toNat = y142 from Ny142.out.symm] at hr56; replace hr56 : Kd.C k27 _ A56 y142.length y142 := (by rw [hA56]; exact hr56); rw [← hy56, ← hA56, ← hc56] at hcut56; have HR145 := am hr56; have HC145 := am (show y142.length ≤ c56 from by rw [hy56, hc56]; exact Nat.sub_le_sub_right hroom56 _); clear hr56 hC56 hroom56 hi056 hsz56 hc56; have KY56 := am hy56; have KA56 := am hA56; clear hy56 hA56; have KL56 := am (show (x9_2 : Int).toNat ≤ x6_1.length from by omega); replace q56 := eq_true q56) | ((with_reducible refine gate_builtin (b := .append) (xs := #[.tmp 82, .tmp 85]) rfl ?_); at_builtin; refine Kd.R_append_rows k27 (w0 := w) w.heap.size rfl (.tmp 82) (.tmp 85) 24 27 (.agg #[(.int .i64 0), (.int .i64 0)]) 16 rfl Try.underlying24 info27 rfl (by decide) (by omega) v140 y139 y142 _ _ _ (fun k_ => some k_ ≠ (.slice (some ad104) x6_1.length co48 : Value).ownBlock ∧ k_ ≠ gb103) (fun _ => False) rfl rfl ?aO ?aR (fun _ _ h => h) (fun _ h => h.elim) ?aF ?aB ?aS ?aL ?_; (case aR => repeat (first | exact (by repeat (first | (with_reducible exact HR145.out) | (with_reducible refine Kd.C_alloc ?_ _) | (with_reducible refine Kd.C_drewN ?_ _) | (with_reducible refine Kd.C_drew ?_) | exact HR145.out)) | (with_reducible refine Kd.C_alloc ?_ _) | (with_reducible refine Kd.C_drewN ?_ _) | (with_reducible refine Kd.C_drew ?_))); (case aB => exact (by repeat (first | (with_reducible first | exact HB.out | apply lA | apply lN | apply lD | refine lS ?_ GE103.out) | exact HB.out))); (case aF => exact (fun k_ hk => ⟨Kd.fresh' (Kd.R_lt (by (with_reducible repeat (first | apply Ra | apply Rn | apply Rd)); exact HO_6.out)) k_ hk, Kd.freshB (g := gb103) (o := .cells #[.int .i64 ((rd_T27 l1 x7_1).fst), .int .i64 ((rd_T27 l1 x7_1).snd)] 27 (0, 0)) (by (with_reducible repeat (first | refine bN ?_ _ | refine bD ?_ | refine bA ?_ _)); exact BK103.out) k_ hk⟩)); (case aO => exact (by (with_reducible repeat (first | apply Ra | apply Rn | apply Rd)); exact HO141.out)); (case aS => exact (below_size (by repeat (first | (with_reducible first | exact HB.out | apply lA | apply lN | apply lD | refine lS ?_ GE103.out) | exact HB.out)))); (case aL => have := LMc47.out; omega); intro v147 w57 ho hb hg hat; rw [← Ny146.out] at ho; replace BK103 := am (blk_grown (g := gb103) (o := .cells #[.int .i64 ((rd_T27 l1 x7_1).fst), .int .i64 ((rd_T27 l1 x7_1).snd)] 27 (0, 0)) (by (with_reducible repeat (first | refine bN ?_ _ | refine bD ?_ | refine bA ?_ _)); exact BK103.out) hg (Kd.R_away HO141.out (fun _ hk => hk.2))); replace HB := am (hb); replace HR135 := am ((show Kd.C k27 w57 (some ad104) y132.length y132 from by rw [Ny132.out]; exact Kd.C_take (m := (x9_2 : Int).toNat) ((Kd.R_reads' (Kd.R_after (ok := (fun k_ => k_ ≠ gb103)) (by (with_reducible repeat (first | apply Ra | apply Rn | apply Rd)); exact HO_6.out) hg hat)).2.2) KL52.out)); replace HR145 := am ((show Kd.C k27 w57 A56 y142.length y142 from by rw [Ny142.out, KA56.out]; exact Kd.C_drop (m := (x9_2 : Int).toNat) (c := co48) ((Kd.R_reads' (Kd.R_after (ok := (fun k_ => k_ ≠ gb103)) (by (with_reducible repeat (first | apply Ra | apply Rn | apply Rd)); exact HO_6.out) hg hat)).2.2) KL56.out ((Kd.R_reads' (Kd.R_after (ok := (fun k_ => k_ ≠ gb103)) (by (with_reducible repeat (first | apply Ra | apply Rn | apply Rd)); exact HO_6.out) hg hat)).2.1))); replace HO_6 := am (Kd.R_after (ok := (fun k_ => k_ ≠ gb103)) (by (with_reducible repeat (first | apply Ra | apply Rn | apply Rd)); exact HO_6.out) hg hat); have HO148 := am (ho); clear HO141; clear ho hb hg hat)); try go_wp2_with (first | ((with_reducible refine gate_dst (N := 73) rfl ?_); refine Kd.R_lit k27 _ 27 ?hg (N := 73) ?hd (xs := ([] : List (IPair))) (inner := []) (ok := fun _ => True) (okp := fun _ => True) ?hr ?hp (fun _ hk => hk) trivial (Below.refl _ _) (Nat.le_refl _) (by simp) ?_; (case hd => rfl); (case hg => rfl); (case hr => first | (go_simp; done) | (go_simp; rfl)); (case hp => exact (Reps.none _ _)); intro v130 w50 ho51 hb hg_ hnew_; clear hg_ hnew_; (first | rw [← Ny129.out] at ho51 | (simp only [Int.reduceToNat] at ho51; rw [← Ny129.out] at ho51)); have HO131 := am (Kd.R_lower (Kd.R_newB (Kd.R_new' ho51 (Kd.R_lt (by (with_reducible repeat (first | apply Ra | apply Rn | apply Rd)); exact HO_6.out))) (g := gb103) (o := .cells #[.int .i64 ((rd_T27 l1 x7_1).fst), .int .i64 ((rd_T27 l1 x7_1).snd)] 27 (0, 0)) (by (with_reducible repeat (first | refine bN ?_ _ | refine bD ?_ | refine bA ?_ _)); exact BK103.out)) (below_size (by repeat (first | (with_reducible first | exact HB.out | apply lA | apply lN | apply lD | refine lS ?_ GE103.out) | exact HB.out)))); replace HO_6 := am (Kd.R_elder' (by (with_reducible repeat (first | apply Ra | apply Rn | apply Rd)); exact HO_6.out) (Kd.R_base ho51) hb); replace BK103 := am (blk_below (g := gb103) (o := .cells #[.int .i64 ((rd_T27 l1 x7_1).fst), .int .i64 ((rd_T27 l1 x7_1).snd)] 27 (0, 0)) (by (with_reducible repeat (first | refine bN ?_ _ | refine bD ?_ | refine bA ?_ _)); exact BK103.out) hb); replace HB := am (below_step (by repeat (first | (with_reducible first | exact HB.out | apply lA | apply lN | apply lD | refine lS ?_ GE103.out) | exact HB.out)) hb); clear hb ho51; have q52 : (x9_2 : Int) ≤ ((x6_1.length : Int) : Int) := of_decide_eq_true (by first | (with_reducible assumption) | assumption); obtain ⟨i052, hi052, _, hsz52, _⟩ := info_parts info27; have hroom52 : x6_1.length ≤ co48 := (Kd.R_reads' HO_6.out).2.1; have hC52 : Kd.C k27 _ (some ad104) x6_1.length x6_1 := (Kd.R_reads' HO_6.out).2.2; have hcut52 := cut_to (P := Try.prog) 24 27 .i64 Try.underlying24 hi052 (some ad104) x6_1.length co48 x9_2 (of_decide_eq_true (by first | (with_reducible assumption) | assumption)) q52 hroom52; have hr52 := Kd.C_take (m := (x9_2 : Int).toNat) hC52 (by omega); have hy52 : y132.length = (x9_2 : Int).toNat := (by rw [Ny132.out, List.length_take]; omega); rw [← Ny132.out] at hr52; rw [← hy52] at hcut52; have HR135 := am hr52; have HC135 := am (show y132.length ≤ co48 from by omega); clear hr52 hC52 hroom52 hi052 hsz52; have KY52 := am hy52; clear hy52; have KL52 := am (show (x9_2 : Int).toNat ≤ x6_1.length from by omega); replace q52 := eq_true q52) | ((with_reducible refine gate_builtin (b := .append) (xs := #[.tmp 73, .tmp 76]) rfl ?_); at_builtin; refine Kd.R_append_rows k27 (w0 := w) w.heap.size rfl (.tmp 73) (.tmp 76) 24 27 (.agg #[(.int .i64 0), (.int .i64 0)]) 16 rfl Try.underlying24 info27 rfl (by decide) (by omega) v130 y129 y132 _ _ _ (fun k_ => some k_ ≠ (.slice (some ad104) x6_1.length co48 : Value).ownBlock ∧ k_ ≠ gb103) (fun _ => False) rfl rfl ?aO ?aR (fun _ _ h => h) (fun _ h => h.elim) ?aF ?aB ?aS ?aL ?_; (case aR => repeat (first | exact (by repeat (first | (with_reducible exact HR135.out) | (with_reducible refine Kd.C_alloc ?_ _) | (with_reducible refine Kd.C_drewN ?_ _) | (with_reducible refine Kd.C_drew ?_) | exact HR135.out)) | (with_reducible refine Kd.C_alloc ?_ _) | (with_reducible refine Kd.C_drewN ?_ _) | (with_reducible refine Kd.C_drew ?_))); (case aB => exact (by repeat (first | (with_reducible first | exact HB.out | apply lA | apply lN | apply lD | refine lS ?_ GE103.out) | exact HB.out))); (case aF => exact (fun k_ hk => ⟨Kd.fresh' (Kd.R_lt (by (with_reducible repeat (first | apply Ra | apply Rn | apply Rd)); exact HO_6.out)) k_ hk, Kd.freshB (g := gb103) (o := .cells #[.int .i64 ((rd_T27 l1 x7_1).fst), .int .i64 ((rd_T27 l1 x7_1).snd)] 27 (0, 0)) (by (with_reducible repeat (first | refine bN ?_ _ | refine bD ?_ | refine bA ?_ _)); exact BK103.out) k_ hk⟩)); (case aO => exact (by (with_reducible repeat (first | apply Ra | apply Rn | apply Rd)); exact Kd.R_mono HO131.out (fun _ hk => ⟨hk.1.2, hk.2⟩))); (case aS => exact (below_size (by repeat (first | (with_reducible first | exact HB.out | apply lA | apply lN | apply lD | refine lS ?_ GE103.out) | exact HB.out)))); (case aL => have := LMc43.out; omega); intro v137 w53 ho hb hg hat; rw [← Ny136.out] at ho; replace BK103 := am (blk_grown (g := gb103) (o := .cells #[.int .i64 ((rd_T27 l1 x7_1).fst), .int .i64 ((rd_T27 l1 x7_1).snd)] 27 (0, 0)) (by (with_reducible repeat (first | refine bN ?_ _ | refine bD ?_ | refine bA ?_ _)); exact BK103.out) hg (Kd.R_away HO131.out (fun _ hk => hk.2))); replace HB := am (hb); replace HR135 := am ((show Kd.C k27 w53 (some ad104) y132.length y132 from by rw [Ny132.out]; exact Kd.C_take (m := (x9_2 : Int).toNat) ((Kd.R_reads' (Kd.R_after (ok := (fun k_ => k_ ≠ gb103)) (by (with_reducible repeat (first | apply Ra | apply Rn | apply Rd)); exact HO_6.out) hg hat)).2.2) KL52.out)); replace HO_6 := am (Kd.R_after (ok := (fun k_ => k_ ≠ gb103)) (by (with_reducible repeat (first | apply Ra | apply Rn | apply Rd)); exact HO_6.out) hg hat); have HO138 := am (ho); clear HO131; clear ho hb hg hat; have hcz54_0 : w53.cell? ⟨gb103, 0, none⟩ = some (.int .i64 ((rd_T27 l1 x7_1).fst)) := (blk_cell BK103.out 0).trans rfl; have hcz54_1 : w53.cell? ⟨gb103, 1, none⟩ = some (.int .i64 ((rd_T27 l1 x7_1).snd)) := (blk_cell BK103.out 1).trans rfl; have hfz54_0 := blk_frozen BK103.out 0; have hfz54_1 := blk_frozen BK103.out 1) | ((with_reducible refine gate_builtin (b := .append) (xs := #[.tmp 78, .tmp 80]) rfl ?_); at_builtin; refine Kd.R_append k27 (w0 := w) w.heap.size rfl (.tmp 78) (.tmp 80) 24 27 (.agg #[(.int .i64 0), (.int .i64 0)]) 16 rfl Try.underlying24 info27 rfl (by decide) (by omega) v137 y136 (⟨((rd_T27 l1 x7_1).fst), ((rd_T27 l1 x7_1).snd)⟩ : IPair) [.int .i64 ((rd_T27 l1 x7_1).fst), .int .i64 ((rd_T27 l1 x7_1).snd)] (fun k_ => some k_ ≠ (.slice (some ad104) x6_1.length co48 : Value).ownBlock ∧ k_ ≠ gb103) (fun _ => False) rfl rfl ?aP (fun _ hk => hk.elim) ?aF ?aO ?aB ?aS ?aL ?_; (case aP => exact k27_mkM _ _ _ (⟨((rd_T27 l1 x7_1).fst), ((rd_T27 l1 x7_1).snd)⟩ : IPair)); (case aB => exact (by repeat (first | (with_reducible first | exact HB.out | apply lA | apply lN | apply lD | refine lS ?_ GE103.out) | exact HB.out))); (case aF => exact (fun k_ hk => ⟨Kd.fresh' (Kd.R_lt (by (with_reducible repeat (first | apply Ra | apply Rn | apply Rd)); exact HO_6.out)) k_ hk, Kd.freshB (g := gb103) (o := .cells #[.int .i64 ((rd_T27 l1 x7_1).fst), .int .i64 ((rd_T27 l1 x7_1).snd)] 27 (0, 0)) (by (with_reducible repeat (first | refine bN ?_ _ | refine bD ?_ | refine bA ?_ _)); exact BK103.out) k_ hk⟩)); (case aO => exact (by (with_reducible repeat (first | apply Ra | apply Rn | apply Rd)); exact HO138.out)); (case aS => exact (below_size (by repeat (first | (with_reducible first | exact HB.out | apply lA | apply lN | apply lD | refine lS ?_ GE103.out) | exact HB.out)))); (case aL => have := LMc44.out; omega); intro v140 w55 ho hb hg hat; rw [← Ny139.out] at ho; replace BK103 := am (blk_grown (g := gb103) (o := .cells #[.int .i64 ((rd_T27 l1 x7_1).fst), .int .i64 ((rd_T27 l1 x7_1).snd)] 27 (0, 0)) (by (with_reducible repeat (first | refine bN ?_ _ | refine bD ?_ | refine bA ?_ _)); exact BK103.out) hg (Kd.R_away HO138.out (fun _ hk => hk.2))); replace HB := am (hb); replace HR135 := am ((show Kd.C k27 w55 (some ad104) y132.length y132 from by rw [Ny132.out]; exact Kd.C_take (m := (x9_2 : Int).toNat) ((Kd.R_reads' (Kd.R_after (ok := (fun k_ => k_ ≠ gb103)) (by (with_reducible repeat (first | apply Ra | apply Rn | apply Rd)); exact HO_6.out) hg hat)).2.2) KL52.out)); replace HO_6 := am (Kd.R_after (ok := (fun k_ => k_ ≠ gb103)) (by (with_reducible repeat (first | apply Ra | apply Rn | apply Rd)); exact HO_6.out) hg hat); have HO141 := am (ho); clear HO138; clear ho hb hg hat; have q56 : (x9_2 : Int) ≤ ((x6_1.length : Int) : Int) := of_decide_eq_true (by first | (with_reducible assumption) | assumption); obtain ⟨i056, hi056, _, hsz56, _⟩ := info_parts info27; have hroom56 : x6_1.length ≤ co48 := (Kd.R_reads' HO_6.out).2.1; have hC56 : Kd.C k27 _ (some ad104) x6_1.length x6_1 := (Kd.R_reads' HO_6.out).2.2; have q056 : (0 : Int) ≤ (x9_2 : Int) := of_decide_eq_true (by first | (with_reducible assumption) | assumption); have hcut56 := cut_from (P := Try.prog) 24 27 .i64 Try.underlying24 hi056 2 hsz56 (some ad104) x6_1.length co48 x9_2 q056 q56; have hr56 := Kd.C_drop (m := (x9_2 : Int).toNat) (c := co48) hC56 (by omega) hroom56; obtain ⟨A56, hA56⟩ : ∃ A1, A1 = (if co48 = (x9_2 : Int).toNat then (some ad104) else ((some ad104) : Option Addr).map (·.add ((x9_2 : Int).toNat * 2))) := ⟨_, rfl⟩; obtain ⟨c56, hc56⟩ : ∃ c1, c1 = co48 - (x9_2 : Int).toNat := ⟨_, rfl⟩; have hy56 : y142.length = x6_1.length - (x9_2 : Int).toNat := (by rw [Ny142.out, List.length_drop] <;> omega); rw [show (x6_1).drop (x9_2 : Int).toNat = y142 from Ny142.out.symm] at hr56; replace hr56 : Kd.C k27 _ A56 y142.length y142 := (by rw [hA56]; exact hr56); rw [← hy56, ← hA56, ← hc56] at hcut56; have HR145 := am hr56; have HC145 := am (show y142.length ≤ c56 from by rw [hy56, hc56]; exact Nat.sub_le_sub_right hroom56 _); clear hr56 hC56 hroom56 hi056 hsz56 hc56; have KY56 := am hy56; have KA56 := am hA56; clear hy56 hA56; have KL56 := am (show (x9_2 : Int).toNat ≤ x6_1.length from by omega); replace q56 := eq_true q56) | ((with_reducible refine gate_builtin (b := .append) (xs := #[.tmp 82, .tmp 85]) rfl ?_); at_builtin; refine Kd.R_append_rows k27 (w0 := w) w.heap.size rfl (.tmp 82) (.tmp 85) 24 27 (.agg #[(.int .i64 0), (.int .i64 0)]) 16 rfl Try.underlying24 info27 rfl (by decide) (by omega) v140 y139 y142 _ _ _ (fun k_ => some k_ ≠ (.slice (some ad104) x6_1.length co48 : Value).ownBlock ∧ k_ ≠ gb103) (fun _ => False) rfl rfl ?aO ?aR (fun _ _ h => h) (fun _ h => h.elim) ?aF ?aB ?aS ?aL ?_; (case aR => repeat (first | exact (by repeat (first | (with_reducible exact HR145.out) | (with_reducible refine Kd.C_alloc ?_ _) | (with_reducible refine Kd.C_drewN ?_ _) | (with_reducible refine Kd.C_drew ?_) | exact HR145.out)) | (with_reducible refine Kd.C_alloc ?_ _) | (with_reducible refine Kd.C_drewN ?_ _) | (with_reducible refine Kd.C_drew ?_))); (case aB => exact (by repeat (first | (with_reducible first | exact HB.out | apply lA | apply lN | apply lD | refine lS ?_ GE103.out) | exact HB.out))); (case aF => exact (fun k_ hk => ⟨Kd.fresh' (Kd.R_lt (by (with_reducible repeat (first | apply Ra | apply Rn | apply Rd)); exact HO_6.out)) k_ hk, Kd.freshB (g := gb103) (o := .cells #[.int .i64 ((rd_T27 l1 x7_1).fst), .int .i64 ((rd_T27 l1 x7_1).snd)] 27 (0, 0)) (by (with_reducible repeat (first | refine bN ?_ _ | refine bD ?_ | refine bA ?_ _)); exact BK103.out) k_ hk⟩)); (case aO => exact (by (with_reducible repeat (first | apply Ra | apply Rn | apply Rd)); exact HO141.out)); (case aS => exact (below_size (by repeat (first | (with_reducible first | exact HB.out | apply lA | apply lN | apply lD | refine lS ?_ GE103.out) | exact HB.out)))); (case aL => have := LMc47.out; omega); intro v147 w57 ho hb hg hat; rw [← Ny146.out] at ho; replace BK103 := am (blk_grown (g := gb103) (o := .cells #[.int .i64 ((rd_T27 l1 x7_1).fst), .int .i64 ((rd_T27 l1 x7_1).snd)] 27 (0, 0)) (by (with_reducible repeat (first | refine bN ?_ _ | refine bD ?_ | refine bA ?_ _)); exact BK103.out) hg (Kd.R_away HO141.out (fun _ hk => hk.2))); replace HB := am (hb); replace HR135 := am ((show Kd.C k27 w57 (some ad104) y132.length y132 from by rw [Ny132.out]; exact Kd.C_take (m := (x9_2 : Int).toNat) ((Kd.R_reads' (Kd.R_after (ok := (fun k_ => k_ ≠ gb103)) (by (with_reducible repeat (first | apply Ra | apply Rn | apply Rd)); exact HO_6.out) hg hat)).2.2) KL52.out)); replace HR145 := am ((show Kd.C k27 w57 A56 y142.length y142 from by rw [Ny142.out, KA56.out]; exact Kd.C_drop (m := (x9_2 : Int).toNat) (c := co48) ((Kd.R_reads' (Kd.R_after (ok := (fun k_ => k_ ≠ gb103)) (by (with_reducible repeat (first | apply Ra | apply Rn | apply Rd)); exact HO_6.out) hg hat)).2.2) KL56.out ((Kd.R_reads' (Kd.R_after (ok := (fun k_ => k_ ≠ gb103)) (by (with_reducible repeat (first | apply Ra | apply Rn | apply Rd)); exact HO_6.out) hg hat)).2.1))); replace HO_6 := am (Kd.R_after (ok := (fun k_ => k_ ≠ gb103)) (by (with_reducible repeat (first | apply Ra | apply Rn | apply Rd)); exact HO_6.out) hg hat); have HO148 := am (ho); clear HO141; clear ho hb hg hat)))
                 go_roundg k2
                 case measure => have := HK1.out; have := HK2.out; omega
                 case rel => exact ⟨(y146), (wrap64 (x7_1 + 1)), (by first | rfl | (simp; done) | (simp [*]; done)), H', ⟨by have := HK1.out; have := HK2.out; omega⟩, ⟨by (with_reducible repeat (first | apply Ra | apply Rn | apply Rd)); exact Kd.R_mono HO148.out (fun _ hk => trivial)⟩, ⟨by repeat (first | (with_reducible first | exact HB.out | apply lA | apply lN | apply lD | refine lS ?_ GE103.out) | exact HB.out)⟩⟩
                ·rw [if_neg c47] at H
                 exact absurd H (by simp)
               ·rw [if_neg c44] at H
                exact absurd H (by simp)
              ·rw [if_neg c43] at H
               exact absurd H (by simp)
             ·rw [if_neg c42] at H
              exact absurd H (by simp)
         ·rw [if_neg c10] at H
          exact absurd H (by simp)
        ·rw [if_neg c9] at H
         have c9b0 : decide (x9_2 < (x6_1.length : Int)) = false := decide_eq_false c9
         clear c9
         obtain ⟨y149, hy149⟩ : ∃ y_ : List (IPair), y_ = (([] : List (IPair))) := ⟨_, rfl⟩
         replace H : (if 0 ≤ x9_2 then (if x9_2 ≤ (x6_1.length : Int) then ((some (x6_1.take (x9_2 : Int).toNat : List (IPair))).bind fun y152 => (if y149.length + y152.length < 8796093022208 then ((some (y149 ++ y152 : List (IPair))).bind fun y156 => (if y156.length < 8796093022208 then ((some (y156 ++ [(⟨((rd_T27 l1 x7_1).fst), ((rd_T27 l1 x7_1).snd)⟩ : IPair)] : List (IPair))).bind fun y159 => ((some (x6_1.drop (x9_2 : Int).toNat : List (IPair))).bind fun y162 => (if y159.length + y162.length < 8796093022208 then (lambrequinref10_Clean.l0 k2 l1 (y159 ++ y162) (wrap64 (x7_1 + 1))) else (none)))) else (none))) else (none))) else (none)) else (none)) = some (r1, r2) := by first | (rw [hy149]; with_reducible exact H) | (have H2_ := (Option.bind_some _ _).symm.trans H; rw [hy149]; with_reducible exact H2_) | (have H2_ := (Option.bind_some _ _).symm.trans H; with_reducible exact H2_) | with_reducible exact H | (rw [hy149]; exact H) | exact H
         have Ny149 := am hy149
         clear hy149
         by_cases c58 : 0 ≤ x9_2
         ·rw [if_pos c58] at H
          have c58b0 := eq_true c58
          have c58b1 : decide (0 ≤ x9_2) = true := decide_eq_true c58
          clear c58
          by_cases c59 : x9_2 ≤ (x6_1.length : Int)
          ·rw [if_pos c59] at H
           have c59b0 := eq_true c59
           have c59b1 : decide (x9_2 ≤ (x6_1.length : Int)) = true := decide_eq_true c59
           clear c59
           obtain ⟨y152, hy152⟩ : ∃ y_ : List (IPair), y_ = (x6_1.take (x9_2 : Int).toNat) := ⟨_, rfl⟩
           replace H : (if y149.length + y152.length < 8796093022208 then ((some (y149 ++ y152 : List (IPair))).bind fun y156 => (if y156.length < 8796093022208 then ((some (y156 ++ [(⟨((rd_T27 l1 x7_1).fst), ((rd_T27 l1 x7_1).snd)⟩ : IPair)] : List (IPair))).bind fun y159 => ((some (x6_1.drop (x9_2 : Int).toNat : List (IPair))).bind fun y162 => (if y159.length + y162.length < 8796093022208 then (lambrequinref10_Clean.l0 k2 l1 (y159 ++ y162) (wrap64 (x7_1 + 1))) else (none)))) else (none))) else (none)) = some (r1, r2) := by first | (rw [hy152]; with_reducible exact H) | (have H2_ := (Option.bind_some _ _).symm.trans H; rw [hy152]; with_reducible exact H2_) | (have H2_ := (Option.bind_some _ _).symm.trans H; with_reducible exact H2_) | with_reducible exact H | (rw [hy152]; exact H) | exact H
           have Ny152 := am hy152
           clear hy152
           by_cases c60 : y149.length + y152.length < 8796093022208
           ·rw [if_pos c60] at H
            have LMc60 := am c60
            clear c60
            obtain ⟨y156, hy156⟩ : ∃ y_ : List (IPair), y_ = (y149 ++ y152) := ⟨_, rfl⟩
            replace H : (if y156.length < 8796093022208 then ((some (y156 ++ [(⟨((rd_T27 l1 x7_1).fst), ((rd_T27 l1 x7_1).snd)⟩ : IPair)] : List (IPair))).bind fun y159 => ((some (x6_1.drop (x9_2 : Int).toNat : List (IPair))).bind fun y162 => (if y159.length + y162.length < 8796093022208 then (lambrequinref10_Clean.l0 k2 l1 (y159 ++ y162) (wrap64 (x7_1 + 1))) else (none)))) else (none)) = some (r1, r2) := by first | (rw [hy156]; with_reducible exact H) | (have H2_ := (Option.bind_some _ _).symm.trans H; rw [hy156]; with_reducible exact H2_) | (have H2_ := (Option.bind_some _ _).symm.trans H; with_reducible exact H2_) | with_reducible exact H | (rw [hy156]; exact H) | exact H
            have Ny156 := am hy156
            clear hy156
            by_cases c61 : y156.length < 8796093022208
            ·rw [if_pos c61] at H
             have LMc61 := am c61
             clear c61
             obtain ⟨y159, hy159⟩ : ∃ y_ : List (IPair), y_ = (y156 ++ [(⟨((rd_T27 l1 x7_1).fst), ((rd_T27 l1 x7_1).snd)⟩ : IPair)]) := ⟨_, rfl⟩
             replace H : ((some (x6_1.drop (x9_2 : Int).toNat : List (IPair))).bind fun y162 => (if y159.length + y162.length < 8796093022208 then (lambrequinref10_Clean.l0 k2 l1 (y159 ++ y162) (wrap64 (x7_1 + 1))) else (none))) = some (r1, r2) := by first | (rw [hy159]; with_reducible exact H) | (have H2_ := (Option.bind_some _ _).symm.trans H; rw [hy159]; with_reducible exact H2_) | (have H2_ := (Option.bind_some _ _).symm.trans H; with_reducible exact H2_) | with_reducible exact H | (rw [hy159]; exact H) | exact H
             have Ny159 := am hy159
             clear hy159
             have c62b0 := eq_true (of_decide_eq_true (by first | (with_reducible assumption) | assumption) : 0 ≤ x9_2)
             have c63b0 := eq_true (of_decide_eq_true (by first | (with_reducible assumption) | assumption) : x9_2 ≤ (x6_1.length : Int))
             obtain ⟨y162, hy162⟩ : ∃ y_ : List (IPair), y_ = (x6_1.drop (x9_2 : Int).toNat) := ⟨_, rfl⟩
             replace H : (if y159.length + y162.length < 8796093022208 then (lambrequinref10_Clean.l0 k2 l1 (y159 ++ y162) (wrap64 (x7_1 + 1))) else (none)) = some (r1, r2) := by first | (rw [hy162]; with_reducible exact H) | (have H2_ := (Option.bind_some _ _).symm.trans H; rw [hy162]; with_reducible exact H2_) | (have H2_ := (Option.bind_some _ _).symm.trans H; with_reducible exact H2_) | with_reducible exact H | (rw [hy162]; exact H) | exact H
             have Ny162 := am hy162
             clear hy162
             by_cases c64 : y159.length + y162.length < 8796093022208
             ·rw [if_pos c64] at H
              have LMc64 := am c64
              clear c64
              obtain ⟨y166, hy166⟩ : ∃ y_ : List (IPair), y_ = (y159 ++ y162) := ⟨_, rfl⟩
              replace H : (lambrequinref10_Clean.l0 k2 l1 y166 (wrap64 (x7_1 + 1))) = some (r1, r2) := by first | (rw [hy166]; with_reducible exact H) | (have H2_ := (Option.bind_some _ _).symm.trans H; rw [hy166]; with_reducible exact H2_) | (have H2_ := (Option.bind_some _ _).symm.trans H; with_reducible exact H2_) | with_reducible exact H | (rw [hy166]; exact H) | exact H
              have Ny166 := am hy166
              clear hy166
              have H' := am H
              clear H
              obtain ⟨Ao65, co65, eo65⟩ := Kd.R_slice HO_6.out
              (first | subst eo65 | (injection eo65 with f1_ f2_ f3_; have f4_ := f1_.symm; have f5_ := f3_.symm; clear f1_ f2_ f3_; subst f4_; subst f5_))
              go_wp2_with (first | ((with_reducible refine gate_dst (N := 73) rfl ?_); refine Kd.R_lit k27 _ 27 ?hg (N := 73) ?hd (xs := ([] : List (IPair))) (inner := []) (ok := fun _ => True) (okp := fun _ => True) ?hr ?hp (fun _ hk => hk) trivial (Below.refl _ _) (Nat.le_refl _) (by simp) ?_; (case hd => rfl); (case hg => rfl); (case hr => first | (go_simp; done) | (go_simp; rfl)); (case hp => exact (Reps.none _ _)); intro v150 w66 ho67 hb hg_ hnew_; clear hg_ hnew_; (first | rw [← Ny149.out] at ho67 | (simp only [Int.reduceToNat] at ho67; rw [← Ny149.out] at ho67)); have HO151 := am (Kd.R_lower (Kd.R_newB (Kd.R_new' ho67 (Kd.R_lt (by (with_reducible repeat (first | apply Ra | apply Rn | apply Rd)); exact HO_6.out))) (g := gb103) (o := .cells #[.int .i64 ((rd_T27 l1 x7_1).fst), .int .i64 ((rd_T27 l1 x7_1).snd)] 27 (0, 0)) (by (with_reducible repeat (first | refine bN ?_ _ | refine bD ?_ | refine bA ?_ _)); exact BK103.out)) (below_size (by repeat (first | (with_reducible first | exact HB.out | apply lA | apply lN | apply lD | refine lS ?_ GE103.out) | exact HB.out)))); replace HO_6 := am (Kd.R_elder' (by (with_reducible repeat (first | apply Ra | apply Rn | apply Rd)); exact HO_6.out) (Kd.R_base ho67) hb); replace BK103 := am (blk_below (g := gb103) (o := .cells #[.int .i64 ((rd_T27 l1 x7_1).fst), .int .i64 ((rd_T27 l1 x7_1).snd)] 27 (0, 0)) (by (with_reducible repeat (first | refine bN ?_ _ | refine bD ?_ | refine bA ?_ _)); exact BK103.out) hb); replace HB := am (below_step (by repeat (first | (with_reducible first | exact HB.out | apply lA | apply lN | apply lD | refine lS ?_ GE103.out) | exact HB.out)) hb); clear hb ho67; have q68 : (x9_2 : Int) ≤ ((x6_1.length : Int) : Int) := of_decide_eq_true (by first | (with_reducible assumption) | assumption); obtain ⟨i068, hi068, _, hsz68, _⟩ := info_parts info27; have hroom68 : x6_1.length ≤ co65 := (Kd.R_reads' HO_6.out).2.1; have hC68 : Kd.C k27 _ Ao65 x6_1.length x6_1 := (Kd.R_reads' HO_6.out).2.2; have hcut68 := cut_to (P := Try.prog) 24 27 .i64 Try.underlying24 hi068 Ao65 x6_1.length co65 x9_2 (of_decide_eq_true (by first | (with_reducible assumption) | assumption)) q68 hroom68; have hr68 := Kd.C_take (m := (x9_2 : Int).toNat) hC68 (by omega); have hy68 : y152.length = (x9_2 : Int).toNat := (by rw [Ny152.out, List.length_take]; omega); rw [← Ny152.out] at hr68; rw [← hy68] at hcut68; have HR155 := am hr68; have HC155 := am (show y152.length ≤ co65 from by omega); clear hr68 hC68 hroom68 hi068 hsz68; have KY68 := am hy68; clear hy68; have KL68 := am (show (x9_2 : Int).toNat ≤ x6_1.length from by omega); replace q68 := eq_true q68) | ((with_reducible refine gate_builtin (b := .append) (xs := #[.tmp 73, .tmp 76]) rfl ?_); at_builtin; refine Kd.R_append_rows k27 (w0 := w) w.heap.size rfl (.tmp 73) (.tmp 76) 24 27 (.agg #[(.int .i64 0), (.int .i64 0)]) 16 rfl Try.underlying24 info27 rfl (by decide) (by omega) v150 y149 y152 _ _ _ (fun k_ => some k_ ≠ (.slice Ao65 x6_1.length co65 : Value).ownBlock ∧ k_ ≠ gb103) (fun _ => False) rfl rfl ?aO ?aR (fun _ _ h => h) (fun _ h => h.elim) ?aF ?aB ?aS ?aL ?_; (case aR => repeat (first | exact (by repeat (first | (with_reducible exact HR155.out) | (with_reducible refine Kd.C_alloc ?_ _) | (with_reducible refine Kd.C_drewN ?_ _) | (with_reducible refine Kd.C_drew ?_) | exact HR155.out)) | (with_reducible refine Kd.C_alloc ?_ _) | (with_reducible refine Kd.C_drewN ?_ _) | (with_reducible refine Kd.C_drew ?_))); (case aB => exact (by repeat (first | (with_reducible first | exact HB.out | apply lA | apply lN | apply lD | refine lS ?_ GE103.out) | exact HB.out))); (case aF => exact (fun k_ hk => ⟨Kd.fresh' (Kd.R_lt (by (with_reducible repeat (first | apply Ra | apply Rn | apply Rd)); exact HO_6.out)) k_ hk, Kd.freshB (g := gb103) (o := .cells #[.int .i64 ((rd_T27 l1 x7_1).fst), .int .i64 ((rd_T27 l1 x7_1).snd)] 27 (0, 0)) (by (with_reducible repeat (first | refine bN ?_ _ | refine bD ?_ | refine bA ?_ _)); exact BK103.out) k_ hk⟩)); (case aO => exact (by (with_reducible repeat (first | apply Ra | apply Rn | apply Rd)); exact Kd.R_mono HO151.out (fun _ hk => ⟨hk.1.2, hk.2⟩))); (case aS => exact (below_size (by repeat (first | (with_reducible first | exact HB.out | apply lA | apply lN | apply lD | refine lS ?_ GE103.out) | exact HB.out)))); (case aL => have := LMc60.out; omega); intro v157 w69 ho hb hg hat; rw [← Ny156.out] at ho; replace BK103 := am (blk_grown (g := gb103) (o := .cells #[.int .i64 ((rd_T27 l1 x7_1).fst), .int .i64 ((rd_T27 l1 x7_1).snd)] 27 (0, 0)) (by (with_reducible repeat (first | refine bN ?_ _ | refine bD ?_ | refine bA ?_ _)); exact BK103.out) hg (Kd.R_away HO151.out (fun _ hk => hk.2))); replace HB := am (hb); replace HR155 := am ((show Kd.C k27 w69 Ao65 y152.length y152 from by rw [Ny152.out]; exact Kd.C_take (m := (x9_2 : Int).toNat) ((Kd.R_reads' (Kd.R_after (ok := (fun k_ => k_ ≠ gb103)) (by (with_reducible repeat (first | apply Ra | apply Rn | apply Rd)); exact HO_6.out) hg hat)).2.2) KL68.out)); replace HO_6 := am (Kd.R_after (ok := (fun k_ => k_ ≠ gb103)) (by (with_reducible repeat (first | apply Ra | apply Rn | apply Rd)); exact HO_6.out) hg hat); have HO158 := am (ho); clear HO151; clear ho hb hg hat; have hcz70_0 : w69.cell? ⟨gb103, 0, none⟩ = some (.int .i64 ((rd_T27 l1 x7_1).fst)) := (blk_cell BK103.out 0).trans rfl; have hcz70_1 : w69.cell? ⟨gb103, 1, none⟩ = some (.int .i64 ((rd_T27 l1 x7_1).snd)) := (blk_cell BK103.out 1).trans rfl; have hfz70_0 := blk_frozen BK103.out 0; have hfz70_1 := blk_frozen BK103.out 1) | ((with_reducible refine gate_builtin (b := .append) (xs := #[.tmp 78, .tmp 80]) rfl ?_); at_builtin; refine Kd.R_append k27 (w0 := w) w.heap.size rfl (.tmp 78) (.tmp 80) 24 27 (.agg #[(.int .i64 0), (.int .i64 0)]) 16 rfl Try.underlying24 info27 rfl (by decide) (by omega) v157 y156 (⟨((rd_T27 l1 x7_1).fst), ((rd_T27 l1 x7_1).snd)⟩ : IPair) [.int .i64 ((rd_T27 l1 x7_1).fst), .int .i64 ((rd_T27 l1 x7_1).snd)] (fun k_ => some k_ ≠ (.slice Ao65 x6_1.length co65 : Value).ownBlock ∧ k_ ≠ gb103) (fun _ => False) rfl rfl ?aP (fun _ hk => hk.elim) ?aF ?aO ?aB ?aS ?aL ?_; (case aP => exact k27_mkM _ _ _ (⟨((rd_T27 l1 x7_1).fst), ((rd_T27 l1 x7_1).snd)⟩ : IPair)); (case aB => exact (by repeat (first | (with_reducible first | exact HB.out | apply lA | apply lN | apply lD | refine lS ?_ GE103.out) | exact HB.out))); (case aF => exact (fun k_ hk => ⟨Kd.fresh' (Kd.R_lt (by (with_reducible repeat (first | apply Ra | apply Rn | apply Rd)); exact HO_6.out)) k_ hk, Kd.freshB (g := gb103) (o := .cells #[.int .i64 ((rd_T27 l1 x7_1).fst), .int .i64 ((rd_T27 l1 x7_1).snd)] 27 (0, 0)) (by (with_reducible repeat (first | refine bN ?_ _ | refine bD ?_ | refine bA ?_ _)); exact BK103.out) k_ hk⟩)); (case aO => exact (by (with_reducible repeat (first | apply Ra | apply Rn | apply Rd)); exact HO158.out)); (case aS => exact (below_size (by repeat (first | (with_reducible first | exact HB.out | apply lA | apply lN | apply lD | refine lS ?_ GE103.out) | exact HB.out)))); (case aL => have := LMc61.out; omega); intro v160 w71 ho hb hg hat; rw [← Ny159.out] at ho; replace BK103 := am (blk_grown (g := gb103) (o := .cells #[.int .i64 ((rd_T27 l1 x7_1).fst), .int .i64 ((rd_T27 l1 x7_1).snd)] 27 (0, 0)) (by (with_reducible repeat (first | refine bN ?_ _ | refine bD ?_ | refine bA ?_ _)); exact BK103.out) hg (Kd.R_away HO158.out (fun _ hk => hk.2))); replace HB := am (hb); replace HR155 := am ((show Kd.C k27 w71 Ao65 y152.length y152 from by rw [Ny152.out]; exact Kd.C_take (m := (x9_2 : Int).toNat) ((Kd.R_reads' (Kd.R_after (ok := (fun k_ => k_ ≠ gb103)) (by (with_reducible repeat (first | apply Ra | apply Rn | apply Rd)); exact HO_6.out) hg hat)).2.2) KL68.out)); replace HO_6 := am (Kd.R_after (ok := (fun k_ => k_ ≠ gb103)) (by (with_reducible repeat (first | apply Ra | apply Rn | apply Rd)); exact HO_6.out) hg hat); have HO161 := am (ho); clear HO158; clear ho hb hg hat; have q72 : (x9_2 : Int) ≤ ((x6_1.length : Int) : Int) := of_decide_eq_true (by first | (with_reducible assumption) | assumption); obtain ⟨i072, hi072, _, hsz72, _⟩ := info_parts info27; have hroom72 : x6_1.length ≤ co65 := (Kd.R_reads' HO_6.out).2.1; have hC72 : Kd.C k27 _ Ao65 x6_1.length x6_1 := (Kd.R_reads' HO_6.out).2.2; have q072 : (0 : Int) ≤ (x9_2 : Int) := of_decide_eq_true (by first | (with_reducible assumption) | assumption); have hcut72 := cut_from (P := Try.prog) 24 27 .i64 Try.underlying24 hi072 2 hsz72 Ao65 x6_1.length co65 x9_2 q072 q72; have hr72 := Kd.C_drop (m := (x9_2 : Int).toNat) (c := co65) hC72 (by omega) hroom72; obtain ⟨A72, hA72⟩ : ∃ A1, A1 = (if co65 = (x9_2 : Int).toNat then Ao65 else (Ao65 : Option Addr).map (·.add ((x9_2 : Int).toNat * 2))) := ⟨_, rfl⟩; obtain ⟨c72, hc72⟩ : ∃ c1, c1 = co65 - (x9_2 : Int).toNat := ⟨_, rfl⟩; have hy72 : y162.length = x6_1.length - (x9_2 : Int).toNat := (by rw [Ny162.out, List.length_drop] <;> omega); rw [show (x6_1).drop (x9_2 : Int).toNat = y162 from Ny162.out.symm] at hr72; replace hr72 : Kd.C k27 _ A72 y162.length y162 := (by rw [hA72]; exact hr72); rw [← hy72, ← hA72, ← hc72] at hcut72; have HR165 := am hr72; have HC165 := am (show y162.length ≤ c72 from by rw [hy72, hc72]; exact Nat.sub_le_sub_right hroom72 _); clear hr72 hC72 hroom72 hi072 hsz72 hc72; have KY72 := am hy72; have KA72 := am hA72; clear hy72 hA72; have KL72 := am (show (x9_2 : Int).toNat ≤ x6_1.length from by omega); replace q72 := eq_true q72) | ((with_reducible refine gate_builtin (b := .append) (xs := #[.tmp 82, .tmp 85]) rfl ?_); at_builtin; refine Kd.R_append_rows k27 (w0 := w) w.heap.size rfl (.tmp 82) (.tmp 85) 24 27 (.agg #[(.int .i64 0), (.int .i64 0)]) 16 rfl Try.underlying24 info27 rfl (by decide) (by omega) v160 y159 y162 _ _ _ (fun k_ => some k_ ≠ (.slice Ao65 x6_1.length co65 : Value).ownBlock ∧ k_ ≠ gb103) (fun _ => False) rfl rfl ?aO ?aR (fun _ _ h => h) (fun _ h => h.elim) ?aF ?aB ?aS ?aL ?_; (case aR => repeat (first | exact (by repeat (first | (with_reducible exact HR165.out) | (with_reducible refine Kd.C_alloc ?_ _) | (with_reducible refine Kd.C_drewN ?_ _) | (with_reducible refine Kd.C_drew ?_) | exact HR165.out)) | (with_reducible refine Kd.C_alloc ?_ _) | (with_reducible refine Kd.C_drewN ?_ _) | (with_reducible refine Kd.C_drew ?_))); (case aB => exact (by repeat (first | (with_reducible first | exact HB.out | apply lA | apply lN | apply lD | refine lS ?_ GE103.out) | exact HB.out))); (case aF => exact (fun k_ hk => ⟨Kd.fresh' (Kd.R_lt (by (with_reducible repeat (first | apply Ra | apply Rn | apply Rd)); exact HO_6.out)) k_ hk, Kd.freshB (g := gb103) (o := .cells #[.int .i64 ((rd_T27 l1 x7_1).fst), .int .i64 ((rd_T27 l1 x7_1).snd)] 27 (0, 0)) (by (with_reducible repeat (first | refine bN ?_ _ | refine bD ?_ | refine bA ?_ _)); exact BK103.out) k_ hk⟩)); (case aO => exact (by (with_reducible repeat (first | apply Ra | apply Rn | apply Rd)); exact HO161.out)); (case aS => exact (below_size (by repeat (first | (with_reducible first | exact HB.out | apply lA | apply lN | apply lD | refine lS ?_ GE103.out) | exact HB.out)))); (case aL => have := LMc64.out; omega); intro v167 w73 ho hb hg hat; rw [← Ny166.out] at ho; replace BK103 := am (blk_grown (g := gb103) (o := .cells #[.int .i64 ((rd_T27 l1 x7_1).fst), .int .i64 ((rd_T27 l1 x7_1).snd)] 27 (0, 0)) (by (with_reducible repeat (first | refine bN ?_ _ | refine bD ?_ | refine bA ?_ _)); exact BK103.out) hg (Kd.R_away HO161.out (fun _ hk => hk.2))); replace HB := am (hb); replace HR155 := am ((show Kd.C k27 w73 Ao65 y152.length y152 from by rw [Ny152.out]; exact Kd.C_take (m := (x9_2 : Int).toNat) ((Kd.R_reads' (Kd.R_after (ok := (fun k_ => k_ ≠ gb103)) (by (with_reducible repeat (first | apply Ra | apply Rn | apply Rd)); exact HO_6.out) hg hat)).2.2) KL68.out)); replace HR165 := am ((show Kd.C k27 w73 A72 y162.length y162 from by rw [Ny162.out, KA72.out]; exact Kd.C_drop (m := (x9_2 : Int).toNat) (c := co65) ((Kd.R_reads' (Kd.R_after (ok := (fun k_ => k_ ≠ gb103)) (by (with_reducible repeat (first | apply Ra | apply Rn | apply Rd)); exact HO_6.out) hg hat)).2.2) KL72.out ((Kd.R_reads' (Kd.R_after (ok := (fun k_ => k_ ≠ gb103)) (by (with_reducible repeat (first | apply Ra | apply Rn | apply Rd)); exact HO_6.out) hg hat)).2.1))); replace HO_6 := am (Kd.R_after (ok := (fun k_ => k_ ≠ gb103)) (by (with_reducible repeat (first | apply Ra | apply Rn | apply Rd)); exact HO_6.out) hg hat); have HO168 := am (ho); clear HO161; clear ho hb hg hat))
              repeat (go_quiet (first | ((with_reducible refine gate_dst (N := 73) rfl ?_); refine Kd.R_lit k27 _ 27 ?hg (N := 73) ?hd (xs := ([] : List (IPair))) (inner := []) (ok := fun _ => True) (okp := fun _ => True) ?hr ?hp (fun _ hk => hk) trivial (Below.refl _ _) (Nat.le_refl _) (by simp) ?_; (case hd => rfl); (case hg => rfl); (case hr => first | (go_simp; done) | (go_simp; rfl)); (case hp => exact (Reps.none _ _)); intro v150 w66 ho67 hb hg_ hnew_; clear hg_ hnew_; (first | rw [← Ny149.out] at ho67 | (simp only [Int.reduceToNat] at ho67; rw [← Ny149.out] at ho67)); have HO151 := am (Kd.R_lower (Kd.R_newB (Kd.R_new' ho67 (Kd.R_lt (by (with_reducible repeat (first | apply Ra | apply Rn | apply Rd)); exact HO_6.out))) (g := gb103) (o := .cells #[.int .i64 ((rd_T27 l1 x7_1).fst), .int .i64 ((rd_T27 l1 x7_1).snd)] 27 (0, 0)) (by (with_reducible repeat (first | refine bN ?_ _ | refine bD ?_ | refine bA ?_ _)); exact BK103.out)) (below_size (by repeat (first | (with_reducible first | exact HB.out | apply lA | apply lN | apply lD | refine lS ?_ GE103.out) | exact HB.out)))); replace HO_6 := am (Kd.R_elder' (by (with_reducible repeat (first | apply Ra | apply Rn | apply Rd)); exact HO_6.out) (Kd.R_base ho67) hb); replace BK103 := am (blk_below (g := gb103) (o := .cells #[.int .i64 ((rd_T27 l1 x7_1).fst), .int .i64 ((rd_T27 l1 x7_1).snd)] 27 (0, 0)) (by (with_reducible repeat (first | refine bN ?_ _ | refine bD ?_ | refine bA ?_ _)); exact BK103.out) hb); replace HB := am (below_step (by repeat (first | (with_reducible first | exact HB.out | apply lA | apply lN | apply lD | refine lS ?_ GE103.out) | exact HB.out)) hb); clear hb ho67; have q68 : (x9_2 : Int) ≤ ((x6_1.length : Int) : Int) := of_decide_eq_true (by first | (with_reducible assumption) | assumption); obtain ⟨i068, hi068, _, hsz68, _⟩ := info_parts info27; have hroom68 : x6_1.length ≤ co65 := (Kd.R_reads' HO_6.out).2.1; have hC68 : Kd.C k27 _ Ao65 x6_1.length x6_1 := (Kd.R_reads' HO_6.out).2.2; have hcut68 := cut_to (P := Try.prog) 24 27 .i64 Try.underlying24 hi068 Ao65 x6_1.length co65 x9_2 (of_decide_eq_true (by first | (with_reducible assumption) | assumption)) q68 hroom68; have hr68 := Kd.C_take (m := (x9_2 : Int).toNat) hC68 (by omega); have hy68 : y152.length = (x9_2 : Int).toNat := (by rw [Ny152.out, List.length_take]; omega); rw [← Ny152.out] at hr68; rw [← hy68] at hcut68; have HR155 := am hr68; have HC155 := am (show y152.length ≤ co65 from by omega); clear hr68 hC68 hroom68 hi068 hsz68; have KY68 := am hy68; clear hy68; have KL68 := am (show (x9_2 : Int).toNat ≤ x6_1.length from by omega); replace q68 := eq_true q68) | ((with_reducible refine gate_builtin (b := .append) (xs := #[.tmp 73, .tmp 76]) rfl ?_); at_builtin; refine Kd.R_append_rows k27 (w0 := w) w.heap.size rfl (.tmp 73) (.tmp 76) 24 27 (.agg #[(.int .i64 0), (.int .i64 0)]) 16 rfl Try.underlying24 info27 rfl (by decide) (by omega) v150 y149 y152 _ _ _ (fun k_ => some k_ ≠ (.slice Ao65 x6_1.length co65 : Value).ownBlock ∧ k_ ≠ gb103) (fun _ => False) rfl rfl ?aO ?aR (fun _ _ h => h) (fun _ h => h.elim) ?aF ?aB ?aS ?aL ?_; (case aR => repeat (first | exact (by repeat (first | (with_reducible exact HR155.out) | (with_reducible refine Kd.C_alloc ?_ _) | (with_reducible refine Kd.C_drewN ?_ _) | (with_reducible refine Kd.C_drew ?_) | exact HR155.out)) | (with_reducible refine Kd.C_alloc ?_ _) | (with_reducible refine Kd.C_drewN ?_ _) | (with_reducible refine Kd.C_drew ?_))); (case aB => exact (by repeat (first | (with_reducible first | exact HB.out | apply lA | apply lN | apply lD | refine lS ?_ GE103.out) | exact HB.out))); (case aF => exact (fun k_ hk => ⟨Kd.fresh' (Kd.R_lt (by (with_reducible repeat (first | apply Ra | apply Rn | apply Rd)); exact HO_6.out)) k_ hk, Kd.freshB (g := gb103) (o := .cells #[.int .i64 ((rd_T27 l1 x7_1).fst), .int .i64 ((rd_T27 l1 x7_1).snd)] 27 (0, 0)) (by (with_reducible repeat (first | refine bN ?_ _ | refine bD ?_ | refine bA ?_ _)); exact BK103.out) k_ hk⟩)); (case aO => exact (by (with_reducible repeat (first | apply Ra | apply Rn | apply Rd)); exact Kd.R_mono HO151.out (fun _ hk => ⟨hk.1.2, hk.2⟩))); (case aS => exact (below_size (by repeat (first | (with_reducible first | exact HB.out | apply lA | apply lN | apply lD | refine lS ?_ GE103.out) | exact HB.out)))); (case aL => have := LMc60.out; omega); intro v157 w69 ho hb hg hat; rw [← Ny156.out] at ho; replace BK103 := am (blk_grown (g := gb103) (o := .cells #[.int .i64 ((rd_T27 l1 x7_1).fst), .int .i64 ((rd_T27 l1 x7_1).snd)] 27 (0, 0)) (by (with_reducible repeat (first | refine bN ?_ _ | refine bD ?_ | refine bA ?_ _)); exact BK103.out) hg (Kd.R_away HO151.out (fun _ hk => hk.2))); replace HB := am (hb); replace HR155 := am ((show Kd.C k27 w69 Ao65 y152.length y152 from by rw [Ny152.out]; exact Kd.C_take (m := (x9_2 : Int).toNat) ((Kd.R_reads' (Kd.R_after (ok := (fun k_ => k_ ≠ gb103)) (by (with_reducible repeat (first | apply Ra | apply Rn | apply Rd)); exact HO_6.out) hg hat)).2.2) KL68.out)); replace HO_6 := am (Kd.R_after (ok := (fun k_ => k_ ≠ gb103)) (by (with_reducible repeat (first | apply Ra | apply Rn | apply Rd)); exact HO_6.out) hg hat); have HO158 := am (ho); clear HO151; clear ho hb hg hat; have hcz70_0 : w69.cell? ⟨gb103, 0, none⟩ = some (.int .i64 ((rd_T27 l1 x7_1).fst)) := (blk_cell BK103.out 0).trans rfl; have hcz70_1 : w69.cell? ⟨gb103, 1, none⟩ = some (.int .i64 ((rd_T27 l1 x7_1).snd)) := (blk_cell BK103.out 1).trans rfl; have hfz70_0 := blk_frozen BK103.out 0; have hfz70_1 := blk_frozen BK103.out 1) | ((with_reducible refine gate_builtin (b := .append) (xs := #[.tmp 78, .tmp 80]) rfl ?_); at_builtin; refine Kd.R_append k27 (w0 := w) w.heap.size rfl (.tmp 78) (.tmp 80) 24 27 (.agg #[(.int .i64 0), (.int .i64 0)]) 16 rfl Try.underlying24 info27 rfl (by decide) (by omega) v157 y156 (⟨((rd_T27 l1 x7_1).fst), ((rd_T27 l1 x7_1).snd)⟩ : IPair) [.int .i64 ((rd_T27 l1 x7_1).fst), .int .i64 ((rd_T27 l1 x7_1).snd)] (fun k_ => some k_ ≠ (.slice Ao65 x6_1.length co65 : Value).ownBlock ∧ k_ ≠ gb103) (fun _ => False) rfl rfl ?aP (fun _ hk => hk.elim) ?aF ?aO ?aB ?aS ?aL ?_; (case aP => exact k27_mkM _ _ _ (⟨((rd_T27 l1 x7_1).fst), ((rd_T27 l1 x7_1).snd)⟩ : IPair)); (case aB => exact (by repeat (first | (with_reducible first | exact HB.out | apply lA | apply lN | apply lD | refine lS ?_ GE103.out) | exact HB.out))); (case aF => exact (fun k_ hk => ⟨Kd.fresh' (Kd.R_lt (by (with_reducible repeat (first | apply Ra | apply Rn | apply Rd)); exact HO_6.out)) k_ hk, Kd.freshB (g := gb103) (o := .cells #[.int .i64 ((rd_T27 l1 x7_1).fst), .int .i64 ((rd_T27 l1 x7_1).snd)] 27 (0, 0)) (by (with_reducible repeat (first | refine bN ?_ _ | refine bD ?_ | refine bA ?_ _)); exact BK103.out) k_ hk⟩)); (case aO => exact (by (with_reducible repeat (first | apply Ra | apply Rn | apply Rd)); exact HO158.out)); (case aS => exact (below_size (by repeat (first | (with_reducible first | exact HB.out | apply lA | apply lN | apply lD | refine lS ?_ GE103.out) | exact HB.out)))); (case aL => have := LMc61.out; omega); intro v160 w71 ho hb hg hat; rw [← Ny159.out] at ho; replace BK103 := am (blk_grown (g := gb103) (o := .cells #[.int .i64 ((rd_T27 l1 x7_1).fst), .int .i64 ((rd_T27 l1 x7_1).snd)] 27 (0, 0)) (by (with_reducible repeat (first | refine bN ?_ _ | refine bD ?_ | refine bA ?_ _)); exact BK103.out) hg (Kd.R_away HO158.out (fun _ hk => hk.2))); replace HB := am (hb); replace HR155 := am ((show Kd.C k27 w71 Ao65 y152.length y152 from by rw [Ny152.out]; exact Kd.C_take (m := (x9_2 : Int).toNat) ((Kd.R_reads' (Kd.R_after (ok := (fun k_ => k_ ≠ gb103)) (by (with_reducible repeat (first | apply Ra | apply Rn | apply Rd)); exact HO_6.out) hg hat)).2.2) KL68.out)); replace HO_6 := am (Kd.R_after (ok := (fun k_ => k_ ≠ gb103)) (by (with_reducible repeat (first | apply Ra | apply Rn | apply Rd)); exact HO_6.out) hg hat); have HO161 := am (ho); clear HO158; clear ho hb hg hat; have q72 : (x9_2 : Int) ≤ ((x6_1.length : Int) : Int) := of_decide_eq_true (by first | (with_reducible assumption) | assumption); obtain ⟨i072, hi072, _, hsz72, _⟩ := info_parts info27; have hroom72 : x6_1.length ≤ co65 := (Kd.R_reads' HO_6.out).2.1; have hC72 : Kd.C k27 _ Ao65 x6_1.length x6_1 := (Kd.R_reads' HO_6.out).2.2; have q072 : (0 : Int) ≤ (x9_2 : Int) := of_decide_eq_true (by first | (with_reducible assumption) | assumption); have hcut72 := cut_from (P := Try.prog) 24 27 .i64 Try.underlying24 hi072 2 hsz72 Ao65 x6_1.length co65 x9_2 q072 q72; have hr72 := Kd.C_drop (m := (x9_2 : Int).toNat) (c := co65) hC72 (by omega) hroom72; obtain ⟨A72, hA72⟩ : ∃ A1, A1 = (if co65 = (x9_2 : Int).toNat then Ao65 else (Ao65 : Option Addr).map (·.add ((x9_2 : Int).toNat * 2))) := ⟨_, rfl⟩; obtain ⟨c72, hc72⟩ : ∃ c1, c1 = co65 - (x9_2 : Int).toNat := ⟨_, rfl⟩; have hy72 : y162.length = x6_1.length - (x9_2 : Int).toNat := (by rw [Ny162.out, List.length_drop] <;> omega); rw [show (x6_1).drop (x9_2 : Int).toNat = y162 from Ny162.out.symm] at hr72; replace hr72 : Kd.C k27 _ A72 y162.length y162 := (by rw [hA72]; exact hr72); rw [← hy72, ← hA72, ← hc72] at hcut72; have HR165 := am hr72; have HC165 := am (show y162.length ≤ c72 from by rw [hy72, hc72]; exact Nat.sub_le_sub_right hroom72 _); clear hr72 hC72 hroom72 hi072 hsz72 hc72; have KY72 := am hy72; have KA72 := am hA72; clear hy72 hA72; have KL72 := am (show (x9_2 : Int).toNat ≤ x6_1.length from by omega); replace q72 := eq_true q72) | ((with_reducible refine gate_builtin (b := .append) (xs := #[.tmp 82, .tmp 85]) rfl ?_); at_builtin; refine Kd.R_append_rows k27 (w0 := w) w.heap.size rfl (.tmp 82) (.tmp 85) 24 27 (.agg #[(.int .i64 0), (.int .i64 0)]) 16 rfl Try.underlying24 info27 rfl (by decide) (by omega) v160 y159 y162 _ _ _ (fun k_ => some k_ ≠ (.slice Ao65 x6_1.length co65 : Value).ownBlock ∧ k_ ≠ gb103) (fun _ => False) rfl rfl ?aO ?aR (fun _ _ h => h) (fun _ h => h.elim) ?aF ?aB ?aS ?aL ?_; (case aR => repeat (first | exact (by repeat (first | (with_reducible exact HR165.out) | (with_reducible refine Kd.C_alloc ?_ _) | (with_reducible refine Kd.C_drewN ?_ _) | (with_reducible refine Kd.C_drew ?_) | exact HR165.out)) | (with_reducible refine Kd.C_alloc ?_ _) | (with_reducible refine Kd.C_drewN ?_ _) | (with_reducible refine Kd.C_drew ?_))); (case aB => exact (by repeat (first | (with_reducible first | exact HB.out | apply lA | apply lN | apply lD | refine lS ?_ GE103.out) | exact HB.out))); (case aF => exact (fun k_ hk => ⟨Kd.fresh' (Kd.R_lt (by (with_reducible repeat (first | apply Ra | apply Rn | apply Rd)); exact HO_6.out)) k_ hk, Kd.freshB (g := gb103) (o := .cells #[.int .i64 ((rd_T27 l1 x7_1).fst), .int .i64 ((rd_T27 l1 x7_1).snd)] 27 (0, 0)) (by (with_reducible repeat (first | refine bN ?_ _ | refine bD ?_ | refine bA ?_ _)); exact BK103.out) k_ hk⟩)); (case aO => exact (by (with_reducible repeat (first | apply Ra | apply Rn | apply Rd)); exact HO161.out)); (case aS => exact (below_size (by repeat (first | (with_reducible first | exact HB.out | apply lA | apply lN | apply lD | refine lS ?_ GE103.out) | exact HB.out)))); (case aL => have := LMc64.out; omega); intro v167 w73 ho hb hg hat; rw [← Ny166.out] at ho; replace BK103 := am (blk_grown (g := gb103) (o := .cells #[.int .i64 ((rd_T27 l1 x7_1).fst), .int .i64 ((rd_T27 l1 x7_1).snd)] 27 (0, 0)) (by (with_reducible repeat (first | refine bN ?_ _ | refine bD ?_ | refine bA ?_ _)); exact BK103.out) hg (Kd.R_away HO161.out (fun _ hk => hk.2))); replace HB := am (hb); replace HR155 := am ((show Kd.C k27 w73 Ao65 y152.length y152 from by rw [Ny152.out]; exact Kd.C_take (m := (x9_2 : Int).toNat) ((Kd.R_reads' (Kd.R_after (ok := (fun k_ => k_ ≠ gb103)) (by (with_reducible repeat (first | apply Ra | apply Rn | apply Rd)); exact HO_6.out) hg hat)).2.2) KL68.out)); replace HR165 := am ((show Kd.C k27 w73 A72 y162.length y162 from by rw [Ny162.out, KA72.out]; exact Kd.C_drop (m := (x9_2 : Int).toNat) (c := co65) ((Kd.R_reads' (Kd.R_after (ok := (fun k_ => k_ ≠ gb103)) (by (with_reducible repeat (first | apply Ra | apply Rn | apply Rd)); exact HO_6.out) hg hat)).2.2) KL72.out ((Kd.R_reads' (Kd.R_after (ok := (fun k_ => k_ ≠ gb103)) (by (with_reducible repeat (first | apply Ra | apply Rn | apply Rd)); exact HO_6.out) hg hat)).2.1))); replace HO_6 := am (Kd.R_after (ok := (fun k_ => k_ ≠ gb103)) (by (with_reducible repeat (first | apply Ra | apply Rn | apply Rd)); exact HO_6.out) hg hat); have HO168 := am (ho); clear HO161; clear ho hb hg hat)); try go_wp2_with (first | ((with_reducible refine gate_dst (N := 73) rfl ?_); refine Kd.R_lit k27 _ 27 ?hg (N := 73) ?hd (xs := ([] : List (IPair))) (inner := []) (ok := fun _ => True) (okp := fun _ => True) ?hr ?hp (fun _ hk => hk) trivial (Below.refl _ _) (Nat.le_refl _) (by simp) ?_; (case hd => rfl); (case hg => rfl); (case hr => first | (go_simp; done) | (go_simp; rfl)); (case hp => exact (Reps.none _ _)); intro v150 w66 ho67 hb hg_ hnew_; clear hg_ hnew_; (first | rw [← Ny149.out] at ho67 | (simp only [Int.reduceToNat] at ho67; rw [← Ny149.out] at ho67)); have HO151 := am (Kd.R_lower (Kd.R_newB (Kd.R_new' ho67 (Kd.R_lt (by (with_reducible repeat (first | apply Ra | apply Rn | apply Rd)); exact HO_6.out))) (g := gb103) (o := .cells #[.int .i64 ((rd_T27 l1 x7_1).fst), .int .i64 ((rd_T27 l1 x7_1).snd)] 27 (0, 0)) (by (with_reducible repeat (first | refine bN ?_ _ | refine bD ?_ | refine bA ?_ _)); exact BK103.out)) (below_size (by repeat (first | (with_reducible first | exact HB.out | apply lA | apply lN | apply lD | refine lS ?_ GE103.out) | exact HB.out)))); replace HO_6 := am (Kd.R_elder' (by (with_reducible repeat (first | apply Ra | apply Rn | apply Rd)); exact HO_6.out) (Kd.R_base ho67) hb); replace BK103 := am (blk_below (g := gb103) (o := .cells #[.int .i64 ((rd_T27 l1 x7_1).fst), .int .i64 ((rd_T27 l1 x7_1).snd)] 27 (0, 0)) (by (with_reducible repeat (first | refine bN ?_ _ | refine bD ?_ | refine bA ?_ _)); exact BK103.out) hb); replace HB := am (below_step (by repeat (first | (with_reducible first | exact HB.out | apply lA | apply lN | apply lD | refine lS ?_ GE103.out) | exact HB.out)) hb); clear hb ho67; have q68 : (x9_2 : Int) ≤ ((x6_1.length : Int) : Int) := of_decide_eq_true (by first | (with_reducible assumption) | assumption); obtain ⟨i068, hi068, _, hsz68, _⟩ := info_parts info27; have hroom68 : x6_1.length ≤ co65 := (Kd.R_reads' HO_6.out).2.1; have hC68 : Kd.C k27 _ Ao65 x6_1.length x6_1 := (Kd.R_reads' HO_6.out).2.2; have hcut68 := cut_to (P := Try.prog) 24 27 .i64 Try.underlying24 hi068 Ao65 x6_1.length co65 x9_2 (of_decide_eq_true (by first | (with_reducible assumption) | assumption)) q68 hroom68; have hr68 := Kd.C_take (m := (x9_2 : Int).toNat) hC68 (by omega); have hy68 : y152.length = (x9_2 : Int).toNat := (by rw [Ny152.out, List.length_take]; omega); rw [← Ny152.out] at hr68; rw [← hy68] at hcut68; have HR155 := am hr68; have HC155 := am (show y152.length ≤ co65 from by omega); clear hr68 hC68 hroom68 hi068 hsz68; have KY68 := am hy68; clear hy68; have KL68 := am (show (x9_2 : Int).toNat ≤ x6_1.length from by omega); replace q68 := eq_true q68) | ((with_reducible refine gate_builtin (b := .append) (xs := #[.tmp 73, .tmp 76]) rfl ?_); at_builtin; refine Kd.R_append_rows k27 (w0 := w) w.heap.size rfl (.tmp 73) (.tmp 76) 24 27 (.agg #[(.int .i64 0), (.int .i64 0)]) 16 rfl Try.underlying24 info27 rfl (by decide) (by omega) v150 y149 y152 _ _ _ (fun k_ => some k_ ≠ (.slice Ao65 x6_1.length co65 : Value).ownBlock ∧ k_ ≠ gb103) (fun _ => False) rfl rfl ?aO ?aR (fun _ _ h => h) (fun _ h => h.elim) ?aF ?aB ?aS ?aL ?_; (case aR => repeat (first | exact (by repeat (first | (with_reducible exact HR155.out) | (with_reducible refine Kd.C_alloc ?_ _) | (with_reducible refine Kd.C_drewN ?_ _) | (with_reducible refine Kd.C_drew ?_) | exact HR155.out)) | (with_reducible refine Kd.C_alloc ?_ _) | (with_reducible refine Kd.C_drewN ?_ _) | (with_reducible refine Kd.C_drew ?_))); (case aB => exact (by repeat (first | (with_reducible first | exact HB.out | apply lA | apply lN | apply lD | refine lS ?_ GE103.out) | exact HB.out))); (case aF => exact (fun k_ hk => ⟨Kd.fresh' (Kd.R_lt (by (with_reducible repeat (first | apply Ra | apply Rn | apply Rd)); exact HO_6.out)) k_ hk, Kd.freshB (g := gb103) (o := .cells #[.int .i64 ((rd_T27 l1 x7_1).fst), .int .i64 ((rd_T27 l1 x7_1).snd)] 27 (0, 0)) (by (with_reducible repeat (first | refine bN ?_ _ | refine bD ?_ | refine bA ?_ _)); exact BK103.out) k_ hk⟩)); (case aO => exact (by (with_reducible repeat (first | apply Ra | apply Rn | apply Rd)); exact Kd.R_mono HO151.out (fun _ hk => ⟨hk.1.2, hk.2⟩))); (case aS => exact (below_size (by repeat (first | (with_reducible first | exact HB.out | apply lA | apply lN | apply lD | refine lS ?_ GE103.out) | exact HB.out)))); (case aL => have := LMc60.out; omega); intro v157 w69 ho hb hg hat; rw [← Ny156.out] at ho; replace BK103 := am (blk_grown (g := gb103) (o := .cells #[.int .i64 ((rd_T27 l1 x7_1).fst), .int .i64 ((rd_T27 l1 x7_1).snd)] 27 (0, 0)) (by (with_reducible repeat (first | refine bN ?_ _ | refine bD ?_ | refine bA ?_ _)); exact BK103.out) hg (Kd.R_away HO151.out (fun _ hk => hk.2))); replace HB := am (hb); replace HR155 := am ((show Kd.C k27 w69 Ao65 y152.length y152 from by rw [Ny152.out]; exact Kd.C_take (m := (x9_2 : Int).toNat) ((Kd.R_reads' (Kd.R_after (ok := (fun k_ => k_ ≠ gb103)) (by (with_reducible repeat (first | apply Ra | apply Rn | apply Rd)); exact HO_6.out) hg hat)).2.2) KL68.out)); replace HO_6 := am (Kd.R_after (ok := (fun k_ => k_ ≠ gb103)) (by (with_reducible repeat (first | apply Ra | apply Rn | apply Rd)); exact HO_6.out) hg hat); have HO158 := am (ho); clear HO151; clear ho hb hg hat; have hcz70_0 : w69.cell? ⟨gb103, 0, none⟩ = some (.int .i64 ((rd_T27 l1 x7_1).fst)) := (blk_cell BK103.out 0).trans rfl; have hcz70_1 : w69.cell? ⟨gb103, 1, none⟩ = some (.int .i64 ((rd_T27 l1 x7_1).snd)) := (blk_cell BK103.out 1).trans rfl; have hfz70_0 := blk_frozen BK103.out 0; have hfz70_1 := blk_frozen BK103.out 1) | ((with_reducible refine gate_builtin (b := .append) (xs := #[.tmp 78, .tmp 80]) rfl ?_); at_builtin; refine Kd.R_append k27 (w0 := w) w.heap.size rfl (.tmp 78) (.tmp 80) 24 27 (.agg #[(.int .i64 0), (.int .i64 0)]) 16 rfl Try.underlying24 info27 rfl (by decide) (by omega) v157 y156 (⟨((rd_T27 l1 x7_1).fst), ((rd_T27 l1 x7_1).snd)⟩ : IPair) [.int .i64 ((rd_T27 l1 x7_1).fst), .int .i64 ((rd_T27 l1 x7_1).snd)] (fun k_ => some k_ ≠ (.slice Ao65 x6_1.length co65 : Value).ownBlock ∧ k_ ≠ gb103) (fun _ => False) rfl rfl ?aP (fun _ hk => hk.elim) ?aF ?aO ?aB ?aS ?aL ?_; (case aP => exact k27_mkM _ _ _ (⟨((rd_T27 l1 x7_1).fst), ((rd_T27 l1 x7_1).snd)⟩ : IPair)); (case aB => exact (by repeat (first | (with_reducible first | exact HB.out | apply lA | apply lN | apply lD | refine lS ?_ GE103.out) | exact HB.out))); (case aF => exact (fun k_ hk => ⟨Kd.fresh' (Kd.R_lt (by (with_reducible repeat (first | apply Ra | apply Rn | apply Rd)); exact HO_6.out)) k_ hk, Kd.freshB (g := gb103) (o := .cells #[.int .i64 ((rd_T27 l1 x7_1).fst), .int .i64 ((rd_T27 l1 x7_1).snd)] 27 (0, 0)) (by (with_reducible repeat (first | refine bN ?_ _ | refine bD ?_ | refine bA ?_ _)); exact BK103.out) k_ hk⟩)); (case aO => exact (by (with_reducible repeat (first | apply Ra | apply Rn | apply Rd)); exact HO158.out)); (case aS => exact (below_size (by repeat (first | (with_reducible first | exact HB.out | apply lA | apply lN | apply lD | refine lS ?_ GE103.out) | exact HB.out)))); (case aL => have := LMc61.out; omega); intro v160 w71 ho hb hg hat; rw [← Ny159.out] at ho; replace BK103 := am (blk_grown (g := gb103) (o := .cells #[.int .i64 ((rd_T27 l1 x7_1).fst), .int .i64 ((rd_T27 l1 x7_1).snd)] 27 (0, 0)) (by (with_reducible repeat (first | refine bN ?_ _ | refine bD ?_ | refine bA ?_ _)); exact BK103.out) hg (Kd.R_away HO158.out (fun _ hk => hk.2))); replace HB := am (hb); replace HR155 := am ((show Kd.C k27 w71 Ao65 y152.length y152 from by rw [Ny152.out]; exact Kd.C_take (m := (x9_2 : Int).toNat) ((Kd.R_reads' (Kd.R_after (ok := (fun k_ => k_ ≠ gb103)) (by (with_reducible repeat (first | apply Ra | apply Rn | apply Rd)); exact HO_6.out) hg hat)).2.2) KL68.out)); replace HO_6 := am (Kd.R_after (ok := (fun k_ => k_ ≠ gb103)) (by (with_reducible repeat (first | apply Ra | apply Rn | apply Rd)); exact HO_6.out) hg hat); have HO161 := am (ho); clear HO158; clear ho hb hg hat; have q72 : (x9_2 : Int) ≤ ((x6_1.length : Int) : Int) := of_decide_eq_true (by first | (with_reducible assumption) | assumption); obtain ⟨i072, hi072, _, hsz72, _⟩ := info_parts info27; have hroom72 : x6_1.length ≤ co65 := (Kd.R_reads' HO_6.out).2.1; have hC72 : Kd.C k27 _ Ao65 x6_1.length x6_1 := (Kd.R_reads' HO_6.out).2.2; have q072 : (0 : Int) ≤ (x9_2 : Int) := of_decide_eq_true (by first | (with_reducible assumption) | assumption); have hcut72 := cut_from (P := Try.prog) 24 27 .i64 Try.underlying24 hi072 2 hsz72 Ao65 x6_1.length co65 x9_2 q072 q72; have hr72 := Kd.C_drop (m := (x9_2 : Int).toNat) (c := co65) hC72 (by omega) hroom72; obtain ⟨A72, hA72⟩ : ∃ A1, A1 = (if co65 = (x9_2 : Int).toNat then Ao65 else (Ao65 : Option Addr).map (·.add ((x9_2 : Int).toNat * 2))) := ⟨_, rfl⟩; obtain ⟨c72, hc72⟩ : ∃ c1, c1 = co65 - (x9_2 : Int).toNat := ⟨_, rfl⟩; have hy72 : y162.length = x6_1.length - (x9_2 : Int).toNat := (by rw [Ny162.out, List.length_drop] <;> omega); rw [show (x6_1).drop (x9_2 : Int).toNat = y162 from Ny162.out.symm] at hr72; replace hr72 : Kd.C k27 _ A72 y162.length y162 := (by rw [hA72]; exact hr72); rw [← hy72, ← hA72, ← hc72] at hcut72; have HR165 := am hr72; have HC165 := am (show y162.length ≤ c72 from by rw [hy72, hc72]; exact Nat.sub_le_sub_right hroom72 _); clear hr72 hC72 hroom72 hi072 hsz72 hc72; have KY72 := am hy72; have KA72 := am hA72; clear hy72 hA72; have KL72 := am (show (x9_2 : Int).toNat ≤ x6_1.length from by omega); replace q72 := eq_true q72) | ((with_reducible refine gate_builtin (b := .append) (xs := #[.tmp 82, .tmp 85]) rfl ?_); at_builtin; refine Kd.R_append_rows k27 (w0 := w) w.heap.size rfl (.tmp 82) (.tmp 85) 24 27 (.agg #[(.int .i64 0), (.int .i64 0)]) 16 rfl Try.underlying24 info27 rfl (by decide) (by omega) v160 y159 y162 _ _ _ (fun k_ => some k_ ≠ (.slice Ao65 x6_1.length co65 : Value).ownBlock ∧ k_ ≠ gb103) (fun _ => False) rfl rfl ?aO ?aR (fun _ _ h => h) (fun _ h => h.elim) ?aF ?aB ?aS ?aL ?_; (case aR => repeat (first | exact (by repeat (first | (with_reducible exact HR165.out) | (with_reducible refine Kd.C_alloc ?_ _) | (with_reducible refine Kd.C_drewN ?_ _) | (with_reducible refine Kd.C_drew ?_) | exact HR165.out)) | (with_reducible refine Kd.C_alloc ?_ _) | (with_reducible refine Kd.C_drewN ?_ _) | (with_reducible refine Kd.C_drew ?_))); (case aB => exact (by repeat (first | (with_reducible first | exact HB.out | apply lA | apply lN | apply lD | refine lS ?_ GE103.out) | exact HB.out))); (case aF => exact (fun k_ hk => ⟨Kd.fresh' (Kd.R_lt (by (with_reducible repeat (first | apply Ra | apply Rn | apply Rd)); exact HO_6.out)) k_ hk, Kd.freshB (g := gb103) (o := .cells #[.int .i64 ((rd_T27 l1 x7_1).fst), .int .i64 ((rd_T27 l1 x7_1).snd)] 27 (0, 0)) (by (with_reducible repeat (first | refine bN ?_ _ | refine bD ?_ | refine bA ?_ _)); exact BK103.out) k_ hk⟩)); (case aO => exact (by (with_reducible repeat (first | apply Ra | apply Rn | apply Rd)); exact HO161.out)); (case aS => exact (below_size (by repeat (first | (with_reducible first | exact HB.out | apply lA | apply lN | apply lD | refine lS ?_ GE103.out) | exact HB.out)))); (case aL => have := LMc64.out; omega); intro v167 w73 ho hb hg hat; rw [← Ny166.out] at ho; replace BK103 := am (blk_grown (g := gb103) (o := .cells #[.int .i64 ((rd_T27 l1 x7_1).fst), .int .i64 ((rd_T27 l1 x7_1).snd)] 27 (0, 0)) (by (with_reducible repeat (first | refine bN ?_ _ | refine bD ?_ | refine bA ?_ _)); exact BK103.out) hg (Kd.R_away HO161.out (fun _ hk => hk.2))); replace HB := am (hb); replace HR155 := am ((show Kd.C k27 w73 Ao65 y152.length y152 from by rw [Ny152.out]; exact Kd.C_take (m := (x9_2 : Int).toNat) ((Kd.R_reads' (Kd.R_after (ok := (fun k_ => k_ ≠ gb103)) (by (with_reducible repeat (first | apply Ra | apply Rn | apply Rd)); exact HO_6.out) hg hat)).2.2) KL68.out)); replace HR165 := am ((show Kd.C k27 w73 A72 y162.length y162 from by rw [Ny162.out, KA72.out]; exact Kd.C_drop (m := (x9_2 : Int).toNat) (c := co65) ((Kd.R_reads' (Kd.R_after (ok := (fun k_ => k_ ≠ gb103)) (by (with_reducible repeat (first | apply Ra | apply Rn | apply Rd)); exact HO_6.out) hg hat)).2.2) KL72.out ((Kd.R_reads' (Kd.R_after (ok := (fun k_ => k_ ≠ gb103)) (by (with_reducible repeat (first | apply Ra | apply Rn | apply Rd)); exact HO_6.out) hg hat)).2.1))); replace HO_6 := am (Kd.R_after (ok := (fun k_ => k_ ≠ gb103)) (by (with_reducible repeat (first | apply Ra | apply Rn | apply Rd)); exact HO_6.out) hg hat); have HO168 := am (ho); clear HO161; clear ho hb hg hat)))
              go_roundg k2
              case measure => have := HK1.out; have := HK2.out; omega
              case rel => exact ⟨(y166), (wrap64 (x7_1 + 1)), (by first | rfl | (simp; done) | (simp [*]; done)), H', ⟨by have := HK1.out; have := HK2.out; omega⟩, ⟨by (with_reducible repeat (first | apply Ra | apply Rn | apply Rd)); exact Kd.R_mono HO168.out (fun _ hk => trivial)⟩, ⟨by repeat (first | (with_reducible first | exact HB.out | apply lA | apply lN | apply lD | refine lS ?_ GE103.out) | exact HB.out)⟩⟩
             ·rw [if_neg c64] at H
              exact absurd H (by simp)
            ·rw [if_neg c61] at H
             exact absurd H (by simp)
           ·rw [if_neg c60] at H
            exact absurd H (by simp)
          ·rw [if_neg c59] at H
           exact absurd H (by simp)
         ·rw [if_neg c58] at H
          exact absurd H (by simp)
     ·rw [if_neg c6] at H
      exact absurd H (by simp)
    ·rw [if_neg c5] at H
     have c5b0 : decide (x7_1 < (l1.length : Int)) = false := decide_eq_false c5
     clear c5
     simp only [Option.some.injEq, Prod.mk.injEq] at H
     obtain ⟨rfl, rfl⟩ := H
     go_wp2
     repeat (go_quiet (fail); try go_wp2)
     go_ret2
     exact ⟨_, by first | rfl | (simp [errW_none, errW_some] <;> rfl) | (simp [*, errW_none, errW_some] <;> rfl), by (with_reducible repeat (first | apply Ra | apply Rn | apply Rd)); exact HO_6.out, by repeat (first | (with_reducible first | exact HB.out | apply lA | apply lN | apply lD) | exact HB.out)⟩
 ·replace c4 := Bool.eq_false_iff.mpr c4
  subst c4
  have H1 : (some (([] : List (IPair)), 1)) = some (r1, r2) := by rw [if_neg (show ¬ (false = true) by decide)] at H; exact H
  clear H
  have H := H1
  clear H1
  simp only [Option.some.injEq, Prod.mk.injEq] at H
  obtain ⟨rfl, rfl⟩ := H
  go_enter Try.func21, Try.ntmps21
  go_wp2_with (first | (go_at_call 49; (with_reducible refine (lambrequinref10_may.calls k a0 _ _ l1 false _ ?side1 ?side2 A3.out).mono ?_); (case side1 => repeat (first | exact HR1.out | (with_reducible refine Kd.C_alloc ?_ _) | (with_reducible refine Kd.C_drewN ?_ _) | (with_reducible refine Kd.C_drew ?_))); (case side2 => exact HC1.out); rintro e w' ⟨rfl, ⟨nd, rfl⟩⟩; (try first | exact ⟨rfl, _, World.drewN_drewN _ _ _⟩ | exact ⟨rfl, _, Eq.trans (World.drewN_drewN _ _ _) (congrArg (World.drewN _) (Nat.add_assoc _ _ _))⟩)))
  repeat (go_quiet (first | (go_at_call 49; (with_reducible refine (lambrequinref10_may.calls k a0 _ _ l1 false _ ?side1 ?side2 A3.out).mono ?_); (case side1 => repeat (first | exact HR1.out | (with_reducible refine Kd.C_alloc ?_ _) | (with_reducible refine Kd.C_drewN ?_ _) | (with_reducible refine Kd.C_drew ?_))); (case side2 => exact HC1.out); rintro e w' ⟨rfl, ⟨nd, rfl⟩⟩; (try first | exact ⟨rfl, _, World.drewN_drewN _ _ _⟩ | exact ⟨rfl, _, Eq.trans (World.drewN_drewN _ _ _) (congrArg (World.drewN _) (Nat.add_assoc _ _ _))⟩))); try go_wp2_with (first | (go_at_call 49; (with_reducible refine (lambrequinref10_may.calls k a0 _ _ l1 false _ ?side1 ?side2 A3.out).mono ?_); (case side1 => repeat (first | exact HR1.out | (with_reducible refine Kd.C_alloc ?_ _) | (with_reducible refine Kd.C_drewN ?_ _) | (with_reducible refine Kd.C_drew ?_))); (case side2 => exact HC1.out); rintro e w' ⟨rfl, ⟨nd, rfl⟩⟩; (try first | exact ⟨rfl, _, World.drewN_drewN _ _ _⟩ | exact ⟨rfl, _, Eq.trans (World.drewN_drewN _ _ _) (congrArg (World.drewN _) (Nat.add_assoc _ _ _))⟩))))
  go_ret2
  exact ⟨_, by first | rfl | (simp [errW_none, errW_some] <;> rfl) | (simp [*, errW_none, errW_some] <;> rfl), by first | exact Kd.R_nil _ _ _ _ _ | exact Kd.N_nil _ _ _ _ _ | exact Kd.V_nil _ _ _ _ _ | exact Kd.Q_nil _ _ _ _ _ | exact Kd.S_nil _ _ _ _ _, by repeat (first | (with_reducible first | exact HB.out | apply lA | apply lN | apply lD) | exact HB.out)⟩
end Go.Proofs.Ytmlhnjonmjmhdaa.H
/- the document's own Clean -/
namespace Go.Proofs.Ytmlhnjonmjmhdaa.H
open Go.RowKit Go.Proofs.YtmlhnjonmjmhdaaW.PrintWords
theorem lt_tri (x y : IPair) : lexLt x y ∨ x = y ∨ lexLt y x := by
  unfold lexLt
  by_cases h : x = y
  · exact .inr (.inl h)
  · have : x.fst ≠ y.fst ∨ x.snd ≠ y.snd := by
      rcases Classical.em (x.fst = y.fst) with h1 | h1
      · rcases Classical.em (x.snd = y.snd) with h2 | h2
        · exfalso; apply h; cases x; cases y; simp only at h1 h2; rw [h1, h2]
        · exact .inr h2
      · exact .inl h1
    omega
theorem lt_tr {x y z : IPair} (h : lexLt x y) (g : lexLt y z) : lexLt x z := by unfold lexLt at *; omega
theorem lt_ir {x : IPair} : ¬ lexLt x x := by unfold lexLt; omega
structure CI (l : List IPair) (out : List IPair) : Prop where
  pw : out.Pairwise lexLt
  mem : ∀ e, e ∈ out ↔ e ∈ l
theorem CI.put {l out : List IPair} {e : IPair} (h : CI l out) {at_ : Nat} (h1 : ∀ x ∈ out.take at_, lexLt x e) (h2 : ∀ x ∈ out.drop at_, lexLt e x) : CI (l ++ [e]) (out.take at_ ++ [e] ++ out.drop at_) := by
  refine ⟨?_, ?_⟩
  · rw [List.append_assoc, List.pairwise_append]
    refine ⟨h.pw.sublist (List.take_sublist _ _), ?_, ?_⟩
    · rw [List.singleton_append, List.pairwise_cons]
      exact ⟨h2, h.pw.sublist (List.drop_sublist _ _)⟩
    · intro x hx y hy
      rw [List.singleton_append] at hy
      rcases List.mem_cons.1 hy with rfl | hy
      · exact h1 x hx
      · exact lt_tr (h1 x hx) (h2 y hy)
  · intro x
    have hs : x ∈ out ↔ x ∈ out.take at_ ∨ x ∈ out.drop at_ := by rw [← List.mem_append, List.take_append_drop]
    rw [List.mem_append, List.mem_append, List.mem_append, ← h.mem x, hs]
    simp only [List.mem_singleton]
    constructor
    · rintro ((h | h) | h)
      · exact .inl (.inl h)
      · exact .inr h
      · exact .inl (.inr h)
    · rintro ((h | h) | h)
      · exact .inl (.inl h)
      · exact .inr h
      · exact .inl (.inr h)
theorem CI.had {l out : List IPair} {e : IPair} (h : CI l out) (he : e ∈ out) : CI (l ++ [e]) out := by
  refine ⟨h.pw, fun x => ?_⟩
  rw [List.mem_append, List.mem_singleton, h.mem x]
  constructor
  · exact .inl
  · rintro (h1 | rfl)
    · exact h1
    · exact (h.mem x).1 he
theorem CI.fin {l out : List IPair} (h : CI l out) : out = dd (sortL l) :=
  strict_eq h.pw (dd_strict (sortL_pw l)) (fun e => by rw [h.mem, mem_sortL])
theorem CI.len {l out : List IPair} (h : CI l out) : out.length ≤ l.length := by
  rw [h.fin]
  exact Nat.le_trans (dd_len _) (Nat.le_of_eq (sortL_perm l).length_eq)
theorem cl_l1 {l : List IPair} (hl : l.length ≤ 1000000) {i : Nat} (hi : i < l.length) {out : List IPair} (h : CI (l.take i) out) {R : List IPair × Int} (next : ∀ out', CI (l.take (i + 1)) out' → Ev (fun k => lambrequinref10_Clean.l0 k l out' ((i + 1 : Nat) : Int)) R) :
    ∀ (d : List IPair) (j : Nat), out.drop j = d → j ≤ out.length → (∀ x ∈ out.take j, lexLt x l[i]) → Ev (fun k => lambrequinref10_Clean.l1 k l out (i : Int) (j : Int) (l[i]).fst (l[i]).snd) R := by
  have hol := h.len
  rw [List.length_take] at hol
  have hy : l[i]? = some l[i] := List.getElem?_eq_getElem hi
  have et : l.take i ++ [l[i]] = l.take (i + 1) := (take_snoc hy).symm
  generalize l[i] = e at *
  have ei : wrap64 ((i : Int) + 1) = ((i + 1 : Nat) : Int) := wrap_up (by omega)
  have hput : ∀ j : Nat, j ≤ out.length → (∀ x ∈ out.take j, lexLt x e) → (∀ x ∈ out.drop j, lexLt e x) → Ev (fun k => (some (([] : List (IPair)) : List (IPair))).bind fun y149 => (if j ≤ (out.length : Int) then ((some (out.take (j : Int).toNat : List (IPair))).bind fun y152 => (if y149.length + y152.length < 8796093022208 then ((some (y149 ++ y152 : List (IPair))).bind fun y156 => (if y156.length < 8796093022208 then ((some (y156 ++ [(⟨e.fst, e.snd⟩ : IPair)] : List (IPair))).bind fun y159 => ((some (out.drop (j : Int).toNat : List (IPair))).bind fun y162 => (if y159.length + y162.length < 8796093022208 then (lambrequinref10_Clean.l0 k l (y159 ++ y162) (wrap64 ((i : Int) + 1))) else (none)))) else (none))) else (none))) else (none))) R := by
    intro j hj h1 h2
    have hn := next _ (et ▸ h.put h1 h2)
    refine Ev.pure rfl (Ev.pos (by clear ei; omega) (Ev.pure rfl (Ev.pos (by simp; clear ei; omega) (Ev.pure rfl (Ev.pos (by simp; clear ei; omega) (Ev.pure rfl (Ev.pure rfl (Ev.pos (by simp; clear ei; omega) ?_))))))))
    rw [ei, Int.toNat_natCast, List.nil_append]
    exact hn
  intro d
  induction d with
  | nil =>
    intro j hd hj h1
    refine Ev.step (fun k => by rw [lambrequinref10_Clean.l1]) ?_
    refine Ev.neg (drop_end hd) ?_
    have := hput j hj h1 (fun x hx => by rw [hd] at hx; cases hx)
    refine Ev.pure rfl (Ev.pos (by clear ei; omega) ?_)
    exact this
  | cons y d ih =>
    intro j hd hj h1
    obtain ⟨g1, g2, g3, g4, g5⟩ := drop_more hd (by clear ei; omega)
    have er : rd_T27 out (j : Int) = y := g3 _
    have hyj : out[j]? = some y := by
      have := congrArg (fun z => z[0]?) hd
      simpa using this
    have hjl : j < out.length := by clear g5 ei; omega
    have hnext : lexLt y e → Ev (fun k => lambrequinref10_Clean.l1 k l out (i : Int) (wrap64 ((j : Int) + 1)) e.fst e.snd) R := by
      intro hlt
      rw [g5]
      refine ih (j + 1) g4 (by clear g5 ei; omega) (fun x hx => ?_)
      rw [take_snoc hyj] at hx
      rcases List.mem_append.1 hx with hx | hx
      · exact h1 x hx
      · rw [List.mem_singleton.1 hx]; exact hlt
    have hbig : lexLt e y → ∀ x ∈ out.drop j, lexLt e x := by
      intro hlt x hx
      rw [hd] at hx
      have hp : (y :: d).Pairwise lexLt := by rw [← hd]; exact h.pw.sublist (List.drop_sublist _ _)
      rcases List.mem_cons.1 hx with rfl | hx
      · exact hlt
      · exact lt_tr hlt ((List.pairwise_cons.1 hp).1 x hx)
    have heq : y = e → Ev (fun k => lambrequinref10_Clean.l0 k l out (wrap64 ((i : Int) + 1))) R := by
      intro hye
      rw [ei]
      exact next out (et ▸ h.had (hye ▸ List.mem_of_getElem? hyj))
    clear g5
    refine Ev.step (fun k => by rw [lambrequinref10_Clean.l1]) ?_
    rw [er]
    refine Ev.pos g1 (Ev.pos g2 ?_)
    by_cases c1 : y.fst < e.fst
    · exact Ev.pos c1 (hnext (.inl c1))
    · refine Ev.neg c1 ?_
      by_cases c2 : y.fst = e.fst
      · refine Ev.pos c2 ?_
        by_cases c3 : y.snd < e.snd
        · exact Ev.pos c3 (hnext (.inr ⟨c2, c3⟩))
        · refine Ev.neg c3 ?_
          by_cases c4 : y.snd = e.snd
          · refine Ev.pos (by simp [c2, c4]) (heq ?_)
            cases y; cases e
            simp only at c2 c4
            rw [c2, c4]
          · exact Ev.neg (by simp [c4]) (hput j hj h1 (hbig (.inr ⟨c2.symm, by clear ei; omega⟩)))
      · refine Ev.neg c2 (Ev.neg (by simp [c2]) (hput j hj h1 (hbig (.inl (by clear ei; omega)))))
theorem cl_l0 {l : List IPair} (hl : l.length ≤ 1000000) : ∀ (m i : Nat) (out : List IPair), i + m = l.length → CI (l.take i) out → Ev (fun k => lambrequinref10_Clean.l0 k l out (i : Int)) (dd (sortL l), 0)
  | 0, i, out, h, hc => by
    rw [List.take_of_length_le (by omega)] at hc
    refine Ev.step (fun k => by rw [lambrequinref10_Clean.l0]) ?_
    exact Ev.neg (by omega) (Ev.some (by rw [hc.fin]))
  | m + 1, i, out, h, hc => by
    have hi : i < l.length := by omega
    have er : rd_T27 l (i : Int) = l[i] := getD_at (List.getElem?_eq_getElem hi) _
    refine Ev.step (fun k => by rw [lambrequinref10_Clean.l0]) ?_
    rw [er]
    refine Ev.pos (by omega) (Ev.pos (by omega) ?_)
    exact cl_l1 hl hi hc (fun out' h' => cl_l0 hl m (i + 1) out' (by omega) h') out 0 rfl (Nat.zero_le _) (fun x hx => by simp at hx)
theorem refClean_ev {n : Int} {l : List IPair} (hl : l.length ≤ 1000000) : Ev (fun k => lambrequinref10_Clean.f k n l) (if cleanBad n l then ([], 1) else (dd (sortL l), 0)) := by
  unfold lambrequinref10_Clean.f
  refine Ev.bind (may_ev hl) ?_
  cases hb : cleanBad n l with
  | true => exact Ev.neg (by decide) (Ev.now _)
  | false => exact Ev.pos (by decide) (cl_l0 hl l.length 0 [] (by omega) ⟨List.Pairwise.nil, fun e => by simp⟩)
/-- no longer than the model's longest text -/
def bStr (s : ByteArray) : Prop := s.size ≤ 9223372036854775807
/-- What an argument of a type holds, read as the kind kd; B: how long its texts are. -/
structure Opens {α : Type} (P : Program) (t : TypeId) (kd : Kd α) (B : α → Prop) : Prop where
  size : P.cellsOf t = kd.sz
  opened : ∀ {H : Type} {enc : TypeId × Value → H} {w : World} {base : Nat} {sp : Nat → Bool} {held : Bool} {fuel : Nat} {cs : List Value} {x : DataW H × List MemPlace},
    DataW.trod enc P w base sp held fuel t cs = some x → ∃ a, kd.K w a cs ∧ B a
theorem Opens.as {α : Type} {P : Program} {t : TypeId} {kd : Kd α} {B B' : α → Prop} (h : Opens P t kd B) (hB : ∀ a, B a → B' a) : Opens P t kd B' :=
  ⟨h.size, fun hx => by obtain ⟨a, ha, hb⟩ := h.opened hx; exact ⟨a, ha, hB a hb⟩⟩
theorem opens_bool {P : Program} {t : TypeId} (ht : P.underlying t = some .bool) (hs : P.cellsOf t = 1) : Opens P t Kd.bool (fun _ => True) :=
  ⟨hs, fun h => by obtain ⟨b, rfl, _⟩ := DataW.trod_bool ht h; exact ⟨b, rfl, trivial⟩⟩
theorem opens_int {P : Program} {t : TypeId} {k : IntKind} (ht : P.underlying t = some (.int k)) (hs : P.cellsOf t = 1) : Opens P t (Kd.int k) (fun _ => True) :=
  ⟨hs, fun h => by obtain ⟨b, rfl, _⟩ := DataW.trod_int ht h; exact ⟨b, rfl, trivial⟩⟩
theorem opens_string {P : Program} {t : TypeId} (ht : P.underlying t = some .string) (hs : P.cellsOf t = 1) : Opens P t Kd.string bStr :=
  ⟨hs, fun h => by obtain ⟨b, rfl, _, hb⟩ := DataW.trod_string ht h; exact ⟨b, rfl, hb⟩⟩
theorem list_of {α : Type} (p : Nat → α → Prop) : ∀ n : Nat, (∀ i, i < n → ∃ y, p i y) → ∃ l : List α, l.length = n ∧ ∀ i y, l[i]? = some y → p i y
  | 0, _ => ⟨[], rfl, fun i y h => by simp at h⟩
  | n + 1, h => by
    obtain ⟨l, hl, hp⟩ := list_of p n (fun i hi => h i (by omega))
    obtain ⟨y, hy⟩ := h n (by omega)
    refine ⟨l ++ [y], by simp [hl], fun i z hz => ?_⟩
    rcases Nat.lt_trichotomy i n with hi | rfl | hi
    · rw [List.getElem?_append_left (by omega)] at hz
      exact hp i z hz
    · rw [List.getElem?_append_right (by omega), hl, Nat.sub_self] at hz
      simp at hz
      subst hz
      exact hy
    · rw [List.getElem?_eq_none (by simp [hl]; omega)] at hz
      simp at hz
theorem addr_add_add (a : Addr) (i j : Nat) : (a.add i).add j = a.add (i + j) := by
  unfold Addr.add
  by_cases hi : i = 0 <;> by_cases hj : j = 0 <;> simp [hi, hj, Nat.add_assoc]
theorem opens_slice {α : Type} {P : Program} {t e : TypeId} {kd : Kd α} {B : α → Prop} (ht : P.underlying t = some (.slice e)) (hs : P.cellsOf t = 1) (he : Opens P e kd B) (q : Nat) : Opens P t (Kd.slice q kd) (fun l => l.length ≤ 9223372036854775807 ∧ ∀ y ∈ l, B y) := by
  refine ⟨hs, fun {H enc w base sp held fuel cs x} h => ?_⟩
  rcases DataW.trod_slice ht h with ⟨rfl, _⟩ | ⟨a, len, cap, elems, rest, n, _, rfl, _, _, hl, hm, hlen, hel, _⟩
  · exact ⟨[], ⟨none, 0, rfl, Nat.le_refl _, rfl, by simp, fun h => absurd h (by simp)⟩, by simp, by simp⟩
  · obtain ⟨l, hll, hp⟩ := list_of (fun i y => B y ∧ ∃ c, c.length = kd.sz ∧ kd.K w y c ∧ ∀ j u, c[j]? = some u → w.cell? (a.add (i * kd.sz + j)) = some u) len (fun i hi => by
      have h1 := hel i hi
      rw [List.getElem?_eq_getElem (by omega)] at h1
      obtain ⟨cs', h2, h3⟩ := Option.bind_eq_some_iff.1 h1
      obtain ⟨y, hy, hby⟩ := he.opened h3
      obtain ⟨_, h4, h5⟩ := World.cells?_some h2
      refine ⟨y, hby, cs', by rw [h4, he.size], hy, fun j u hu => ?_⟩
      have hj : j < P.cellsOf e := by rw [← h4]; exact (List.getElem?_eq_some_iff.1 hu).1
      rw [← addr_add_add, ← he.size, h5 j hj, hu])
    subst hll
    refine ⟨l, ⟨some a, cap, rfl, hl, rfl, Nat.le_trans hl (Nat.le_trans hm (by decide)), fun _ => ⟨a, rfl, fun j p hj => (hp j p hj).2⟩⟩, Nat.le_trans hl (Nat.le_trans hm (by decide)), fun y hy => ?_⟩
    obtain ⟨i, hi, rfl⟩ := List.mem_iff_getElem.1 hy
    exact (hp i _ (List.getElem?_eq_getElem hi)).1
theorem opens_iso {α β : Type} {P : Program} {t : TypeId} {kd : Kd α} {B : α → Prop} (h : Opens P t kd B) (f : β → α) (hf : ∀ b, ∃ a, f a = b) : Opens P t (Kd.iso kd f) (fun b => B (f b)) :=
  ⟨h.size, fun hx => by obtain ⟨a, ha⟩ := h.opened hx; obtain ⟨b, rfl⟩ := hf a; exact ⟨b, ha⟩⟩
/-- The fields of a struct from the offset o on. -/
structure OpensL {α : Type} (P : Program) (fs : List Field) (o : Nat) (kd : Kd α) (B : α → Prop) : Prop where
  opened : ∀ {H : Type} {enc : TypeId × Value → H} {w : World} {base : Nat} {sp : Nat → Bool} {held : Bool} {fuel : Nat} (cs : List Value), cs.length = o + kd.sz →
    (∀ f ∈ fs, ∃ x, DataW.trod enc P w base sp held fuel f.type ((cs.drop f.offset).take (P.cellsOf f.type)) = some x) → ∃ a, kd.K w a (cs.drop o) ∧ B a
theorem opensL_one {α : Type} {P : Program} {f : Field} {o : Nat} {kd : Kd α} {B : α → Prop} (ho : f.offset = o) (h : Opens P f.type kd B) : OpensL P [f] o kd B := by
  refine ⟨fun {H enc w base sp held fuel} cs hcs hf => ?_⟩
  obtain ⟨x, hx⟩ := hf f (by simp)
  obtain ⟨a, ha, hb⟩ := h.opened hx
  rw [ho, h.size, List.take_of_length_le (by simp [hcs])] at ha
  exact ⟨a, ha, hb⟩
theorem opensL_cons {α β : Type} {P : Program} {f : Field} {fs : List Field} {o : Nat} {kd : Kd α} {kd' : Kd β} {B : α → Prop} {B' : β → Prop} (ho : f.offset = o) (h : Opens P f.type kd B) (hr : OpensL P fs (o + kd.sz) kd' B') : OpensL P (f :: fs) o (Kd.pair kd kd') (fun p => B p.1 ∧ B' p.2) := by
  refine ⟨fun {H enc w base sp held fuel} cs hcs hf => ?_⟩
  obtain ⟨x, hx⟩ := hf f (by simp)
  obtain ⟨a, ha, hba⟩ := h.opened hx
  have hcs' : cs.length = o + kd.sz + kd'.sz := by rw [hcs]; show o + (kd.sz + kd'.sz) = _; omega
  obtain ⟨b, hb, hbb⟩ := hr.opened cs hcs' (fun g hg => hf g (by simp [hg]))
  rw [ho, h.size] at ha
  refine ⟨(a, b), ⟨(cs.drop o).take kd.sz, (cs.drop (o + kd.sz)), ?_, ha, hb⟩, hba, hbb⟩
  rw [← List.drop_drop, List.take_append_drop]
theorem opens_struct {α : Type} {P : Program} {t : TypeId} {fs : List Field} {kd : Kd α} {B : α → Prop} (ht : P.underlying t = some (.struct ⟨fs⟩)) (hs : P.cellsOf t = kd.sz) (h : OpensL P fs 0 kd B) : Opens P t kd B := by
  refine ⟨hs, fun {H enc w base sp held fuel cs x} hx => ?_⟩
  obtain ⟨xs, n, _, _, hl, hlen, hf⟩ := DataW.trod_struct ht hx
  obtain ⟨a, ha, hb⟩ := h.opened (enc := enc) (w := w) (base := base) (sp := sp) (held := held) (fuel := n) cs (by rw [hl, hs]; omega) (fun f hfm => by
    obtain ⟨i, hi, rfl⟩ := List.mem_iff_getElem.1 hfm
    have h1 := hf i fs[i] (by simp [hi])
    exact ⟨xs[i]'(by rw [hlen]; simpa using hi), by rw [h1, List.getElem?_eq_getElem]⟩)
  exact ⟨a, by simpa using ha, hb⟩
/-- an array of two numbers -/
theorem opens_arr2 {P : Program} {t e : TypeId} {k : IntKind} (ht : P.underlying t = some (.array 2 e)) (hu : P.underlying e = some (.int k)) (hs : P.cellsOf t = 2) (he : P.cellsOf e = 1) :
    Opens P t (Kd.pair (Kd.int k) (Kd.int k)) (fun p => (Lit.int k p.1).wf = true ∧ (Lit.int k p.2).wf = true) := by
  refine ⟨hs, fun {H enc w base sp held fuel cs x} hx => ?_⟩
  obtain ⟨xs, m, _, _, hl, hlen, hel⟩ := DataW.trod_array ht hx
  rw [hs] at hl
  match cs, hl with
  | [c0, c1], _ =>
    match xs, hlen with
    | [x0, x1], _ =>
      have h0 := hel 0 (by decide)
      have h1 := hel 1 (by decide)
      rw [he] at h0 h1
      obtain ⟨a, ea, _, wa⟩ := DataW.trod_int hu (show DataW.trod enc P w base sp held m e [c0] = some x0 from h0)
      obtain ⟨b, eb, _, wb⟩ := DataW.trod_int hu (show DataW.trod enc P w base sp held m e [c1] = some x1 from h1)
      cases ea; cases eb
      exact ⟨(a, b), ⟨[.int k a], [.int k b], rfl, rfl, rfl⟩, wa, wb⟩
theorem okWide_array {P : Program} {w : World} {r : Reach} {base : Nat} {t e : TypeId} {n : Nat} {v : Value} (ht : P.underlying t = some (.array n e)) (h : Value.okWide P w r base t v) : ∃ cs, v = .agg cs ∧ cs.size = P.cellsOf t := by
  simp only [Value.okWide, ht] at h
  obtain ⟨cs, h1, h2, _⟩ := h
  exact ⟨cs, h1, h2⟩
theorem opens_isoL {α β : Type} {P : Program} {fs : List Field} {o : Nat} {kd : Kd α} {B : α → Prop} (h : OpensL P fs o kd B) (f : β → α) (hf : ∀ b, ∃ a, f a = b) : OpensL P fs o (Kd.iso kd f) (fun b => B (f b)) := by
  refine ⟨fun {H enc w base sp held fuel} cs hcs hx => ?_⟩
  obtain ⟨a, ha⟩ := h.opened cs hcs hx
  obtain ⟨b, rfl⟩ := hf a
  exact ⟨b, ha⟩
/-- an argument's value, opened -/
theorem Opens.argB {α : Type} {P : Program} {t : TypeId} {kd : Kd α} {B : α → Prop} (h : Opens P t kd B) {H : Type} {enc : TypeId × Value → H} {w : World} {base : Nat} {sp : Nat → Bool} {held : Bool} {v : Value} {d : DataW H} {ps : List MemPlace}
    (hv : DataW.Trod enc P w base sp held t v d ps) : ∃ a, kd.K w a v.cells.toList ∧ B a := by
  obtain ⟨fuel, hf⟩ := hv
  exact h.opened hf
theorem Opens.arg {α : Type} {P : Program} {t : TypeId} {kd : Kd α} {B : α → Prop} (h : Opens P t kd B) {H : Type} {enc : TypeId × Value → H} {w : World} {base : Nat} {sp : Nat → Bool} {held : Bool} {v : Value} {d : DataW H} {ps : List MemPlace}
    (hv : DataW.Trod enc P w base sp held t v d ps) : ∃ a, kd.K w a v.cells.toList := by
  obtain ⟨a, ha, _⟩ := h.argB hv
  exact ⟨a, ha⟩
/-- An argument's row is no longer than its weight allows. -/
theorem sized_row {H : Type} {enc : TypeId × Value → H} {P : Program} {W : World} {base : Nat} {spare : Nat → Bool} {held : Bool} {t e : TypeId} {a : Option Addr} {len cap : Nat} {d : DataW H} {ps : List MemPlace} {ts : List TypeId} {ds : List (DataW H)} {j : Nat}
    (hsz : (DataW.weightsEach P ts ds).all (· ≤ reachBytes) = true) (ht : ts[j]? = some t) (hd : ds[j]? = some d) (hu : P.underlying t = some (.slice e)) {B : Nat} (hB : P.bytesOf e = B)
    (h : DataW.Trod enc P W base spare held t (.slice a len cap) d ps) : len * B ≤ 140737488351232 := by
  obtain ⟨fuel, hf⟩ := h
  rcases DataW.trod_slice hu hf with ⟨hcs, _⟩ | ⟨x, l, c, elems, rest, n, _, hcs, hx, _, hl, _, hlen, _⟩
  · simp [Value.cells] at hcs
    obtain ⟨rfl, rfl, rfl⟩ := hcs
    simp
  · simp [Value.cells] at hcs
    obtain ⟨rfl, rfl, rfl⟩ := hcs
    obtain ⟨rfl, _⟩ := Prod.mk.inj hx
    have z := sized_slice hsz ht hd hu
    rw [hB, List.length_map, List.length_map, hlen] at z
    exact Nat.le_trans (Nat.mul_le_mul_right _ (Nat.le_add_right _ _)) z
def bVal (x : Val) : Prop := True ∧ bStr (x.sym) ∧ True
theorem opens_Val : Opens Try.prog 67 k67 bVal :=
  Opens.as (opens_struct Try.underlying67 (by kernel_rfl) (opens_isoL (opensL_cons rfl (opens_bool (by kernel_rfl) (by kernel_rfl)) (opensL_cons rfl (opens_string (by kernel_rfl) (by kernel_rfl)) (opensL_one rfl (opens_int (by kernel_rfl) (by kernel_rfl))))) _ (fun b => ⟨⟨b.1, b.2.1, b.2.2⟩, rfl⟩))) (fun _ h => h)
def bTerm (x : Term) : Prop := True ∧ bStr (x.name) ∧ bVal (x.val)
theorem opens_Term : Opens Try.prog 69 k69 bTerm :=
  Opens.as (opens_struct Try.underlying69 (by kernel_rfl) (opens_isoL (opensL_cons rfl (opens_bool (by kernel_rfl) (by kernel_rfl)) (opensL_cons rfl (opens_string (by kernel_rfl) (by kernel_rfl)) (opensL_one rfl opens_Val))) _ (fun b => ⟨⟨b.1, b.2.1, b.2.2⟩, rfl⟩))) (fun _ h => h)
def bAtom (x : Atom) : Prop := bStr (x.pred) ∧ (x.args.length ≤ 9223372036854775807 ∧ ∀ y ∈ x.args, bTerm (y))
theorem opens_Atom : Opens Try.prog 61 k61 bAtom :=
  Opens.as (opens_struct Try.underlying61 (by kernel_rfl) (opens_isoL (opensL_cons rfl (opens_string (by kernel_rfl) (by kernel_rfl)) (opensL_one rfl (opens_slice (by kernel_rfl) (by kernel_rfl) opens_Term 69))) _ (fun b => ⟨⟨b.1, b.2⟩, rfl⟩))) (fun _ h => h)
def bLiter (x : Liter) : Prop := True ∧ bAtom (x.atom) ∧ bStr (x.op) ∧ bTerm (x.l) ∧ bTerm (x.r)
theorem opens_Liter : Opens Try.prog 71 k71 bLiter :=
  Opens.as (opens_struct Try.underlying71 (by kernel_rfl) (opens_isoL (opensL_cons rfl (opens_int (by kernel_rfl) (by kernel_rfl)) (opensL_cons rfl opens_Atom (opensL_cons rfl (opens_string (by kernel_rfl) (by kernel_rfl)) (opensL_cons rfl opens_Term (opensL_one rfl opens_Term))))) _ (fun b => ⟨⟨b.1, b.2.1, b.2.2.1, b.2.2.2.1, b.2.2.2.2⟩, rfl⟩))) (fun _ h => h)
def bRule (x : Rule) : Prop := bAtom (x.head) ∧ (x.body.length ≤ 9223372036854775807 ∧ ∀ y ∈ x.body, bLiter (y))
theorem opens_Rule : Opens Try.prog 64 k64 bRule :=
  Opens.as (opens_struct Try.underlying64 (by kernel_rfl) (opens_isoL (opensL_cons rfl opens_Atom (opensL_one rfl (opens_slice (by kernel_rfl) (by kernel_rfl) opens_Liter 71))) _ (fun b => ⟨⟨b.1, b.2⟩, rfl⟩))) (fun _ h => h)
def bDecl (x : Decl) : Prop := bStr (x.pred) ∧ True
theorem opens_Decl : Opens Try.prog 96 k96 bDecl :=
  Opens.as (opens_struct Try.underlying96 (by kernel_rfl) (opens_isoL (opensL_cons rfl (opens_string (by kernel_rfl) (by kernel_rfl)) (opensL_one rfl (opens_int (by kernel_rfl) (by kernel_rfl)))) _ (fun b => ⟨⟨b.1, b.2⟩, rfl⟩))) (fun _ h => h)
def bProg (x : Prog) : Prop := (x.decls.length ≤ 9223372036854775807 ∧ ∀ y ∈ x.decls, bDecl (y)) ∧ (x.rules.length ≤ 9223372036854775807 ∧ ∀ y ∈ x.rules, bRule (y))
theorem opens_Prog : Opens Try.prog 50 k50 bProg :=
  Opens.as (opens_struct Try.underlying50 (by kernel_rfl) (opens_isoL (opensL_cons rfl (opens_slice (by kernel_rfl) (by kernel_rfl) opens_Decl 96) (opensL_one rfl (opens_slice (by kernel_rfl) (by kernel_rfl) opens_Rule 64))) _ (fun b => ⟨⟨b.1, b.2⟩, rfl⟩))) (fun _ h => h)
def bIPair (x : IPair) : Prop := (Lit.int .i64 x.fst).wf = true ∧ (Lit.int .i64 x.snd).wf = true
theorem opens_IPair : Opens Try.prog 27 k27 bIPair :=
  Opens.as (opens_iso (opens_arr2 Try.underlying27 Try.underlying3 (by kernel_rfl) (by kernel_rfl)) _ (fun b => ⟨⟨b.1, b.2⟩, rfl⟩)) (fun _ h => h)
def bBPair (x : BPair) : Prop := (Lit.int .u8 x.fst).wf = true ∧ (Lit.int .u8 x.snd).wf = true
theorem opens_BPair : Opens Try.prog 45 k45 bBPair :=
  Opens.as (opens_iso (opens_arr2 Try.underlying45 Try.underlying5 (by kernel_rfl) (by kernel_rfl)) _ (fun b => ⟨⟨b.1, b.2⟩, rfl⟩)) (fun _ h => h)
end Go.Proofs.Ytmlhnjonmjmhdaa.H
namespace Go.Proofs.Ytmlhnjonmjmhdaa.H
open Go.RowKit Go.Proofs.YtmlhnjonmjmhdaaW.PrintWords Go.Proofs.YtmlhnjonmjmhdaaW.PrintLast Go.Proofs.YtmlhnjonmjmhdaaW.PrintMore
attribute [local go_sem] max2_int min2_int max_two min_two max_three min_three max_four min_four
def lambrequinlaw10_ends.l0 : Nat → List (BPair) → Int → List (IPair) → Int → Option (Int × (List (IPair)))
 | 0, _, _, _, _ => none
 | k + 1, x1, x6, x7, x8 => if x8 < (x1.length : Int) then (if x8 < 100 then (if 0 ≤ x8 then (if x6 = 0 then (none) else (if x7.length < 8796093022208 then (lambrequinlaw10_ends.l0 k x1 x6 (x7 ++ [(⟨Int.tmod (wrap64 ((rd_T45 x1 x8).fst)) x6, Int.tmod (wrap64 ((rd_T45 x1 x8).snd)) x6⟩ : IPair)]) (wrap64 (x8 + 1))) else (none))) else (none)) else (some (x6, x7))) else (some (x6, x7))
def lambrequinlaw10_ends.f (k : Nat) (a0 : Int) (l1 : List (BPair)) : Option (Int × (List (IPair))) := lambrequinlaw10_ends.l0 k l1 (wrap64 (1 + (wrap64 (Int.tmod a0 20)))) ([] : List (IPair)) 0
theorem lambrequinlaw10_ends.mono_l : ∀ k, (∀ y0 y1 y2 y3, LeO (lambrequinlaw10_ends.l0 k y0 y1 y2 y3) (lambrequinlaw10_ends.l0 (k + 1) y0 y1 y2 y3))
 | 0 => fun _ _ _ _ r h => by simp [lambrequinlaw10_ends.l0] at h
 | k + 1 => by
  have ih0 := lambrequinlaw10_ends.mono_l k
  ·intro y0 y1 y2 y3
   unfold lambrequinlaw10_ends.l0
   repeat' first
   | (with_reducible exact ih0 _ _ _ _)
   | (with_reducible exact LeO.refl _)
   | (with_reducible exact LeO.none _)
   | (with_reducible refine LeO.ite ?_ ?_)
   | (with_reducible refine LeO.bind ?_ (fun _ => ?_))
   | exact ih0 _ _ _ _
   | exact LeO.none _
   | refine LeO.ite ?_ ?_
   | refine LeO.bind ?_ (fun _ => ?_)
theorem lambrequinlaw10_ends.mono : ∀ a0 a1 k, LeO (lambrequinlaw10_ends.f k a0 a1) (lambrequinlaw10_ends.f (k + 1) a0 a1) := by
 intro a0 a1 k
 have ih0 := lambrequinlaw10_ends.mono_l k
 unfold lambrequinlaw10_ends.f
 repeat' first
   | (with_reducible exact ih0 _ _ _ _)
   | (with_reducible exact LeO.refl _)
   | (with_reducible exact LeO.none _)
   | (with_reducible refine LeO.ite ?_ ?_)
   | (with_reducible refine LeO.bind ?_ (fun _ => ?_))
   | exact ih0 _ _ _ _
   | exact LeO.none _
   | refine LeO.ite ?_ ?_
   | refine LeO.bind ?_ (fun _ => ?_)
def lambrequinlaw10_ends.T6 : Bool × List (List Nat × List Nat) := (true, [([], []), ([], []), ([], []), ([1, 2], [1, 2]), ([3], [3]), ([4], [4]), ([5], [5]), ([], []), ([6, 7], [6, 7]), ([], []), ([], []), ([9, 10], [9, 10]), ([11], [11]), ([12], [12]), ([13], [13]), ([], []), ([14, 15], [14, 15]), ([8, 16], [8, 16]), ([17], [17]), ([0, 18], [0, 18]), ([19, 19, 0, 1, 2, 3, 4, 5, 6, 7, 8, 9, 10, 11, 12, 13, 14, 15, 16, 17, 18, 19], [0, 19])])
def lambrequinlaw10_ends.B6 : List Nat := [0, 0, 0, 6, 14, 30, 62, 0, 254, 0, 0, 1536, 3584, 7680, 15872, 0, 65024, 131070, 262142, 524287, 1048575]
theorem lambrequinlaw10_ends.tab6 : rtab .any (opsOf Try.f15 6) = lambrequinlaw10_ends.T6 := by kernel_rfl
theorem lambrequinlaw10_ends.bits6 : waitsOk lambrequinlaw10_ends.T6.2 lambrequinlaw10_ends.B6 = true := by kernel_rfl
set_option maxHeartbeats 8000000 in
set_option maxRecDepth 100000 in
theorem lambrequinlaw10_ends.calls (k : Nat) (a0 : Int) (A1 : Option Addr) (c1 : Nat) (l1 : List (BPair)) (r1 : Int) (r2 : List (IPair)) (w : World) (hr1 : Kd.C k45 w A1 l1.length l1) (hc1 : l1.length ≤ c1) (h : lambrequinlaw10_ends.f k a0 l1 = some (r1, r2)) :
  Calls Try.prog 15 #[.int .u8 a0, .slice A1 l1.length c1] w fun e w' => ∃ v1_ : Value, e = .returned (.tuple #[.int .i64 r1, v1_]) ∧ Kd.R k27 27 w' w.heap.size (fun _ => True) v1_ r2 ∧ Below w.heap.size w w' := by
 have hu27 := Try.underlying27
 have HR1 := Aside0.mk hr1
 have HC1 := Aside0.mk hc1
 clear hr1 hc1
 have HB := Aside0.mk (Below.refl w.heap.size w)
 have H : (lambrequinlaw10_ends.l0 k l1 (wrap64 (1 + (wrap64 (Int.tmod a0 20)))) ([] : List (IPair)) 0) = some (r1, r2) := h
 clear h
 have H' := Aside0.mk H
 clear H
 go_enter Try.func15, Try.ntmps15
 go_wp2
 go_loopg [7, 8] k (fun kq v7 v8 w' => ∃ (x7_1 : List (IPair)) (x8_1 : Int), v8 = .int .i64 x8_1 ∧ Aside0 (lambrequinlaw10_ends.l0 kq l1 (wrap64 (1 + (wrap64 (Int.tmod a0 20)))) x7_1 x8_1 = some (r1, r2)) ∧ Aside0 (kq ≤ k) ∧ Aside0 (Kd.R k27 27 w' w.heap.size (fun _ => True) v7 x7_1) ∧ Aside0 (Below w.heap.size w w'))
 case atStart => exact ⟨(([] : List (IPair))), (0), (by first | rfl | (simp; done) | (simp [*]; done)), H', ⟨Nat.le_refl _⟩, ⟨by first | exact Kd.R_nil _ _ _ _ _ | exact Kd.N_nil _ _ _ _ _ | exact Kd.V_nil _ _ _ _ _ | exact Kd.Q_nil _ _ _ _ _ | exact Kd.S_nil _ _ _ _ _⟩, ⟨by repeat (first | (with_reducible first | exact HB.out | apply below_alloc | apply pw_below_drewN | apply below_drew1) | exact HB.out)⟩⟩
 case round =>
  clear H'
  try clear c1
  try clear p2
  obtain ⟨x7_1, x8_1, rfl, HA, HK1, HO_7, HB⟩ := hrel
  cases gk with
  | zero => exact absurd HA.out (by simp [lambrequinlaw10_ends.l0])
  | succ k1 =>
   have H := HA.out
   clear HA
   simp only [lambrequinlaw10_ends.l0] at H
   by_cases c3 : x8_1 < (l1.length : Int)
   ·rw [if_pos c3] at H
    have c3b0 : decide (x8_1 < (l1.length : Int)) = true := decide_eq_true c3
    clear c3
    by_cases c4 : x8_1 < 100
    ·rw [if_pos c4] at H
     have c4b0 : decide (x8_1 < 100) = true := decide_eq_true c4
     clear c4
     by_cases c5 : 0 ≤ x8_1
     ·rw [if_pos c5] at H
      have c5b0 : decide (0 ≤ x8_1) = true := decide_eq_true c5
      clear c5
      by_cases c6 : (wrap64 (1 + (wrap64 (Int.tmod a0 20)))) = 0
      ·rw [if_pos c6] at H
       exact absurd H (by simp)
      ·rw [if_neg c6] at H
       have c6b0 : ((wrap64 (1 + (wrap64 (Int.tmod a0 20)))) == 0) = false := beq_eq_false_iff_ne.mpr c6
       have c6b1 : ((wrap64 (1 + (wrap64 (Int.tmod a0 20)))) != 0) = true := bne_iff_ne.mpr c6
       by_cases c7 : x7_1.length < 8796093022208
       ·rw [if_pos c7] at H
        have LMc7 := Aside0.mk c7
        clear c7
        obtain ⟨y103, hy103⟩ : ∃ y_ : List (IPair), y_ = (x7_1 ++ [(⟨Int.tmod (wrap64 ((rd_T45 l1 x8_1).fst)) (wrap64 (1 + (wrap64 (Int.tmod a0 20)))), Int.tmod (wrap64 ((rd_T45 l1 x8_1).snd)) (wrap64 (1 + (wrap64 (Int.tmod a0 20))))⟩ : IPair)]) := ⟨_, rfl⟩
        replace H : (lambrequinlaw10_ends.l0 k1 l1 (wrap64 (1 + (wrap64 (Int.tmod a0 20)))) y103 (wrap64 (x8_1 + 1))) = some (r1, r2) := by first | (rw [hy103]; with_reducible exact H) | (have H2_ := (Option.bind_some _ _).symm.trans H; rw [hy103]; with_reducible exact H2_) | (have H2_ := (Option.bind_some _ _).symm.trans H; with_reducible exact H2_) | with_reducible exact H | (rw [hy103]; exact H) | exact H
        have Ny103 := Aside0.mk hy103
        clear hy103
        have H' := Aside0.mk H
        clear H
        try go_wp2
        have n0_ := Aside0.mk (Kd.R_drew HO_7.out)
        have n1_ := Aside0.mk (below_drew1 HB.out)
        clear HO_7
        clear HB
        have HO_7 := n0_
        have HB := n1_
        clear n0_ n1_
        have p101 : 0 ≤ (x8_1 : Int) := of_decide_eq_true (by first | (with_reducible assumption) | assumption)
        have q101 : x8_1 < (l1.length : Int) := of_decide_eq_true (by first | (with_reducible assumption) | assumption)
        obtain ⟨ad101, e101, hx101_0, hx101_1⟩ := at_T45 HR1.out x8_1 p101 q101
        have hw101_1 := hx101_1
        have hw101_0 := hx101_0
        cases e101
        replace hx101_0 := (HB.out.cell (blt_ hx101_0)).trans hx101_0
        replace hx101_1 := (HB.out.cell (blt_ hx101_1)).trans hx101_1
        replace p101 := eq_true p101
        replace q101 := eq_true q101
        have p102 : 0 ≤ (x8_1 : Int) := of_decide_eq_true (by first | (with_reducible assumption) | assumption)
        have q102 : x8_1 < (l1.length : Int) := of_decide_eq_true (by first | (with_reducible assumption) | assumption)
        obtain ⟨ad102, e102, hx102_0, hx102_1⟩ := at_T45 HR1.out x8_1 p102 q102
        have hw102_1 := hx102_1
        have hw102_0 := hx102_0
        obtain rfl : ad101 = ad102 := (by injection e102)
        replace hx102_0 := (HB.out.cell (blt_ hx102_0)).trans hx102_0
        replace hx102_1 := (HB.out.cell (blt_ hx102_1)).trans hx102_1
        replace p102 := eq_true p102
        replace q102 := eq_true q102
        refine start_ (n := 21) (S := fun w' => w'.cell? (ad101.add ((x8_1).toNat * 2)) = some (.int .u8 ((rd_T45 l1 x8_1).fst)) ∧ w'.cell? ⟨(ad101.add ((x8_1).toNat * 2)).block, (ad101.add ((x8_1).toNat * 2)).off + 1, none⟩ = some (.int .u8 ((rd_T45 l1 x8_1).snd)) ∧ w'.cell? (ad101.add ((x8_1).toNat * 2)) = some (.int .u8 ((rd_T45 l1 x8_1).fst)) ∧ w'.cell? ⟨(ad101.add ((x8_1).toNat * 2)).block, (ad101.add ((x8_1).toNat * 2)).off + 1, none⟩ = some (.int .u8 ((rd_T45 l1 x8_1).snd))) (ds := []) #[false, false, false, false, false, false, false, false, false, false, false, false, false, false, false, false, false, false, false, false, false] (by kernel_rfl) rfl rfl ⟨((HB.out.cell (blt_ hw101_0)).trans hw101_0), ((HB.out.cell (blt_ hw101_1)).trans hw101_1), ((HB.out.cell (blt_ hw102_0)).trans hw102_0), ((HB.out.cell (blt_ hw102_1)).trans hw102_1)⟩ (fun hHeld => ?_); refine with_tabW lambrequinlaw10_ends.tab6 lambrequinlaw10_ends.bits6 (fun HT_ HW_ => ?_)
        generalize wr.drew = w8 at HO_7 HB hx101_0 hx101_1 hx102_0 hx102_1 hHeld ⊢
        refine pure_ (i := 0) (N := some 23) (v := ?_) (a' := ?_) #[true, false, false, false, false, false, false, false, false, false, false, false, false, false, false, false, false, false, false, false, false] rfl rfl (any_of HT_.out (by kernel_rfl)) (fun _ _ _ h => h) (Or.inl ⟨by rfl, ?_⟩) ?_ ?_
        rotate_left
        ·intro w'
         go_simp
         with_reducible rfl
        rotate_left
        ·simp only [Act.put, List.setIfInBounds_toArray, List.set_cons_zero, List.set_cons_succ, i64_w, i32_w]
         rfl
        refine pure_ (i := 1) (N := some 24) (v := ?_) (a' := ?_) #[true, true, false, false, false, false, false, false, false, false, false, false, false, false, false, false, false, false, false, false, false] rfl rfl (any_of HT_.out (by kernel_rfl)) (fun _ _ _ h => h) (Or.inl ⟨by rfl, ?_⟩) ?_ ?_
        rotate_left
        ·intro w'
         go_simp
         with_reducible rfl
        rotate_left
        ·simp only [Act.put, List.setIfInBounds_toArray, List.set_cons_zero, List.set_cons_succ, i64_w, i32_w]
         rfl
        refine pure_ (i := 2) (N := some 25) (v := ?_) (a' := ?_) #[true, true, true, false, false, false, false, false, false, false, false, false, false, false, false, false, false, false, false, false, false] rfl rfl (any_of HT_.out (by kernel_rfl)) (fun _ _ _ h => h) (Or.inl ⟨by rfl, ?_⟩) ?_ ?_
        rotate_left
        ·intro w'
         go_simp
         with_reducible rfl
        rotate_left
        ·simp only [Act.put, List.setIfInBounds_toArray, List.set_cons_zero, List.set_cons_succ, i64_w, i32_w]
         rfl
        refine pure_ (i := 3) (N := some 26) (v := ?_) (a' := ?_) #[true, true, true, true, false, false, false, false, false, false, false, false, false, false, false, false, false, false, false, false, false] rfl rfl (any_of HT_.out (by kernel_rfl)) (fun _ _ _ h => h) (Or.inl ⟨by rfl, ?_⟩) ?_ ?_
        rotate_left
        ·intro w'
         go_simp
         with_reducible rfl
        rotate_left
        ·simp only [Act.put, List.setIfInBounds_toArray, List.set_cons_zero, List.set_cons_succ, i64_w, i32_w]
         rfl
        refine pure_ (i := 4) (N := some 27) (v := ?_) (a' := ?_) #[true, true, true, true, true, false, false, false, false, false, false, false, false, false, false, false, false, false, false, false, false] rfl rfl (any_of HT_.out (by kernel_rfl)) (fun _ _ _ h => h) (Or.inl ⟨by rfl, ?_⟩) ?_ ?_
        rotate_left
        ·intro w'
         go_simp
         with_reducible rfl
        rotate_left
        ·simp only [Act.put, List.setIfInBounds_toArray, List.set_cons_zero, List.set_cons_succ, i64_w, i32_w]
         rfl
        refine pure_ (i := 7) (N := some 30) (v := ?_) (a' := ?_) #[true, true, true, true, true, false, false, true, false, false, false, false, false, false, false, false, false, false, false, false, false] rfl rfl (any_of HT_.out (by kernel_rfl)) (fun _ _ _ h => h) (Or.inl ⟨by rfl, ?_⟩) ?_ ?_
        rotate_left
        ·intro w'
         go_simp
         with_reducible rfl
        rotate_left
        ·simp only [Act.put, List.setIfInBounds_toArray, List.set_cons_zero, List.set_cons_succ, i64_w, i32_w]
         rfl
        refine pure_ (i := 9) (N := some 32) (v := ?_) (a' := ?_) #[true, true, true, true, true, false, false, true, false, true, false, false, false, false, false, false, false, false, false, false, false] rfl rfl (any_of HT_.out (by kernel_rfl)) (fun _ _ _ h => h) (Or.inl ⟨by rfl, ?_⟩) ?_ ?_
        rotate_left
        ·intro w'
         go_simp
         with_reducible rfl
        rotate_left
        ·simp only [Act.put, List.setIfInBounds_toArray, List.set_cons_zero, List.set_cons_succ, i64_w, i32_w]
         rfl
        refine pure_ (i := 10) (N := some 33) (v := ?_) (a' := ?_) #[true, true, true, true, true, false, false, true, false, true, true, false, false, false, false, false, false, false, false, false, false] rfl rfl (any_of HT_.out (by kernel_rfl)) (fun _ _ _ h => h) (Or.inl ⟨by rfl, ?_⟩) ?_ ?_
        rotate_left
        ·intro w'
         go_simp
         with_reducible rfl
        rotate_left
        ·simp only [Act.put, List.setIfInBounds_toArray, List.set_cons_zero, List.set_cons_succ, i64_w, i32_w]
         rfl
        refine pure_ (i := 11) (N := some 34) (v := ?_) (a' := ?_) #[true, true, true, true, true, false, false, true, false, true, true, true, false, false, false, false, false, false, false, false, false] rfl rfl (any_of HT_.out (by kernel_rfl)) (fun _ _ _ h => h) (Or.inl ⟨by rfl, ?_⟩) ?_ ?_
        rotate_left
        ·intro w'
         go_simp
         with_reducible rfl
        rotate_left
        ·simp only [Act.put, List.setIfInBounds_toArray, List.set_cons_zero, List.set_cons_succ, i64_w, i32_w]
         rfl
        refine pure_ (i := 12) (N := some 35) (v := ?_) (a' := ?_) #[true, true, true, true, true, false, false, true, false, true, true, true, true, false, false, false, false, false, false, false, false] rfl rfl (any_of HT_.out (by kernel_rfl)) (fun _ _ _ h => h) (Or.inl ⟨by rfl, ?_⟩) ?_ ?_
        rotate_left
        ·intro w'
         go_simp
         with_reducible rfl
        rotate_left
        ·simp only [Act.put, List.setIfInBounds_toArray, List.set_cons_zero, List.set_cons_succ, i64_w, i32_w]
         rfl
        refine pure_ (i := 15) (N := some 38) (v := ?_) (a' := ?_) #[true, true, true, true, true, false, false, true, false, true, true, true, true, false, false, true, false, false, false, false, false] rfl rfl (any_of HT_.out (by kernel_rfl)) (fun _ _ _ h => h) (Or.inl ⟨by rfl, ?_⟩) ?_ ?_
        rotate_left
        ·intro w'
         go_simp
         with_reducible rfl
        rotate_left
        ·simp only [Act.put, List.setIfInBounds_toArray, List.set_cons_zero, List.set_cons_succ, i64_w, i32_w]
         rfl
        refine take_ (i := 5) (N := some 28) (v := ?_) (a' := ?_) #[true, true, true, true, true, true, false, true, false, true, true, true, true, false, false, true, false, false, false, false, false] rfl rfl (take_ofW HT_.out HW_.out (by kernel_rfl)) (fun _ _ _ h => h) (Or.inl ⟨by rfl, ?_⟩) hHeld ?_ ?_
        rotate_left
        ·rintro w' ⟨s0, s1, s2, s3⟩
         go_simp
         with_reducible rfl
        rotate_left
        ·simp only [Act.put, List.setIfInBounds_toArray, List.set_cons_zero, List.set_cons_succ, i64_w, i32_w]
         rfl
        refine pure_ (i := 6) (N := some 29) (v := ?_) (a' := ?_) #[true, true, true, true, true, true, true, true, false, true, true, true, true, false, false, true, false, false, false, false, false] rfl rfl (any_of HT_.out (by kernel_rfl)) (fun _ _ _ h => h) (Or.inl ⟨by rfl, ?_⟩) ?_ ?_
        rotate_left
        ·intro w'
         go_simp
         with_reducible rfl
        rotate_left
        ·simp only [Act.put, List.setIfInBounds_toArray, List.set_cons_zero, List.set_cons_succ, i64_w, i32_w]
         rfl
        refine pure_ (i := 8) (N := some 31) (v := ?_) (a' := ?_) #[true, true, true, true, true, true, true, true, true, true, true, true, true, false, false, true, false, false, false, false, false] rfl rfl (any_of HT_.out (by kernel_rfl)) (fun _ _ _ h => h) (Or.inl ⟨by rfl, ?_⟩) ?_ ?_
        rotate_left
        ·intro w'
         go_simp
         with_reducible rfl
        rotate_left
        ·simp only [Act.put, List.setIfInBounds_toArray, List.set_cons_zero, List.set_cons_succ, i64_w, i32_w]
         rfl
        refine take_ (i := 13) (N := some 36) (v := ?_) (a' := ?_) #[true, true, true, true, true, true, true, true, true, true, true, true, true, true, false, true, false, false, false, false, false] rfl rfl (take_ofW HT_.out HW_.out (by kernel_rfl)) (fun _ _ _ h => h) (Or.inl ⟨by rfl, ?_⟩) hHeld ?_ ?_
        rotate_left
        ·rintro w' ⟨s0, s1, s2, s3⟩
         go_simp
         with_reducible rfl
        rotate_left
        ·simp only [Act.put, List.setIfInBounds_toArray, List.set_cons_zero, List.set_cons_succ, i64_w, i32_w]
         rfl
        refine pure_ (i := 14) (N := some 37) (v := ?_) (a' := ?_) #[true, true, true, true, true, true, true, true, true, true, true, true, true, true, true, true, false, false, false, false, false] rfl rfl (any_of HT_.out (by kernel_rfl)) (fun _ _ _ h => h) (Or.inl ⟨by rfl, ?_⟩) ?_ ?_
        rotate_left
        ·intro w'
         go_simp
         with_reducible rfl
        rotate_left
        ·simp only [Act.put, List.setIfInBounds_toArray, List.set_cons_zero, List.set_cons_succ, i64_w, i32_w]
         rfl
        refine pure_ (i := 16) (N := some 39) (v := ?_) (a' := ?_) #[true, true, true, true, true, true, true, true, true, true, true, true, true, true, true, true, true, false, false, false, false] rfl rfl (any_of HT_.out (by kernel_rfl)) (fun _ _ _ h => h) (Or.inl ⟨by rfl, ?_⟩) ?_ ?_
        rotate_left
        ·intro w'
         go_simp
         with_reducible rfl
        rotate_left
        ·simp only [Act.put, List.setIfInBounds_toArray, List.set_cons_zero, List.set_cons_succ, i64_w, i32_w]
         rfl
        refine pure_ (i := 17) (N := some 40) (v := ?_) (a' := ?_) #[true, true, true, true, true, true, true, true, true, true, true, true, true, true, true, true, true, true, false, false, false] rfl rfl (any_of HT_.out (by kernel_rfl)) (fun _ _ _ h => h) (Or.inl ⟨by rfl, ?_⟩) ?_ ?_
        rotate_left
        ·intro w'
         go_simp
         with_reducible rfl
        rotate_left
        ·simp only [Act.put, List.setIfInBounds_toArray, List.set_cons_zero, List.set_cons_succ, i64_w, i32_w]
         rfl
        refine one_ (i := 18) (N := some 41) #[true, true, true, true, true, true, true, true, true, true, true, true, true, true, true, true, true, true, true, false, false] rfl rfl (one_of HT_.out (by kernel_rfl)) (by decide) (fun K hK => ?_)
        refine value_ (w1 := ?_) (v := ?_) (by rfl) rfl ?_ ?_
        rotate_left 2
        ·go_simp
         constructor
         ·rfl
         ·rfl
        refine hK.out _ _ ⟨(World.cell?_alloc_lt _ _ _ (blt_ (((HB.out.cell (blt_ hw101_0)).trans hw101_0)))).trans (((HB.out.cell (blt_ hw101_0)).trans hw101_0)), (World.cell?_alloc_lt _ _ _ (blt_ (((HB.out.cell (blt_ hw101_1)).trans hw101_1)))).trans (((HB.out.cell (blt_ hw101_1)).trans hw101_1)), (World.cell?_alloc_lt _ _ _ (blt_ (((HB.out.cell (blt_ hw102_0)).trans hw102_0)))).trans (((HB.out.cell (blt_ hw102_0)).trans hw102_0)), (World.cell?_alloc_lt _ _ _ (blt_ (((HB.out.cell (blt_ hw102_1)).trans hw102_1)))).trans (((HB.out.cell (blt_ hw102_1)).trans hw102_1))⟩ (fun hHeld => ?_)
        clear hK K
        refine norm_ (a' := ?_) ?_ ?_
        rotate_left
        ·show Act.put _ (some 41) _ = _
         simp only [Act.put, List.setIfInBounds_toArray, List.set_cons_zero, List.set_cons_succ, i64_w, i32_w]
         rfl
        refine one_ (i := 19) (N := some 42) #[true, true, true, true, true, true, true, true, true, true, true, true, true, true, true, true, true, true, true, true, false] rfl rfl (one_of HT_.out (by kernel_rfl)) (by decide) (fun K hK => ?_)
        refine Kd.R_append_step k27 (w0 := w) w.heap.size (by rfl) (.tmp 23) (.tmp 41) 24 27 (.agg #[(.int .i64 0), (.int .i64 0)]) 16 rfl Try.underlying24 info27 rfl (by decide) (by omega) u7 x7_1 (⟨Int.tmod (wrap64 ((rd_T45 l1 x8_1).fst)) (wrap64 (1 + (wrap64 (Int.tmod a0 20)))), Int.tmod (wrap64 ((rd_T45 l1 x8_1).snd)) (wrap64 (1 + (wrap64 (Int.tmod a0 20))))⟩ : IPair) [.int .i64 (Int.tmod (wrap64 ((rd_T45 l1 x8_1).fst)) (wrap64 (1 + (wrap64 (Int.tmod a0 20))))), .int .i64 (Int.tmod (wrap64 ((rd_T45 l1 x8_1).snd)) (wrap64 (1 + (wrap64 (Int.tmod a0 20)))))] (fun _ => True) (fun _ => False) rfl rfl ?aP (fun _ hk => hk.elim) ?aF ?aO ?aB ?aS ?aL ?_
        (case aP => exact k27_mkM _ _ _ (⟨Int.tmod (wrap64 ((rd_T45 l1 x8_1).fst)) (wrap64 (1 + (wrap64 (Int.tmod a0 20)))), Int.tmod (wrap64 ((rd_T45 l1 x8_1).snd)) (wrap64 (1 + (wrap64 (Int.tmod a0 20))))⟩ : IPair))
        (case aB => exact (by repeat (first | (with_reducible first | exact HB.out | apply below_alloc | apply pw_below_drewN | apply below_drew1) | exact HB.out)))
        (case aF => exact (fun _ _ => trivial))
        (case aO => exact (by (with_reducible repeat (first | apply Kd.R_alloc | apply Kd.R_drewN | apply Kd.R_drew)); exact HO_7.out))
        (case aS => exact (below_size (by repeat (first | (with_reducible first | exact HB.out | apply below_alloc | apply pw_below_drewN | apply below_drew1) | exact HB.out))))
        (case aL => have := LMc7.out; omega)
        intro v104 w9 ho hb hg hat
        rw [← Ny103.out] at ho
        have n0_ := Aside0.mk (hb)
        have n1_ := Aside0.mk (ho)
        clear HB
        clear HO_7
        have HB := n0_
        have HO105 := n1_
        clear n0_ n1_
        clear ho hb hg hat
        refine hK.out _ _ ⟨((HB.out.cell (blt_ hw101_0)).trans hw101_0), ((HB.out.cell (blt_ hw101_1)).trans hw101_1), ((HB.out.cell (blt_ hw102_0)).trans hw102_0), ((HB.out.cell (blt_ hw102_1)).trans hw102_1)⟩ (fun hHeld => ?_)
        clear hK K
        refine norm_ (a' := ?_) ?_ ?_
        rotate_left
        ·show Act.put _ (some 42) _ = _
         simp only [Act.put, List.setIfInBounds_toArray, List.set_cons_zero, List.set_cons_succ, i64_w, i32_w]
         rfl
        refine pure_ (i := 20) (N := some 7) (v := ?_) (a' := ?_) #[true, true, true, true, true, true, true, true, true, true, true, true, true, true, true, true, true, true, true, true, true] rfl rfl (any_of HT_.out (by kernel_rfl)) (fun _ _ _ h => h) (Or.inl ⟨by rfl, ?_⟩) ?_ ?_
        rotate_left
        ·intro w'
         go_simp
         with_reducible rfl
        rotate_left
        ·simp only [Act.put, List.setIfInBounds_toArray, List.set_cons_zero, List.set_cons_succ, i64_w, i32_w]
         rfl
        refine done_ (done_of HT_.out (by kernel_rfl)) ?_
        try go_wp2
        go_roundg k1
        case measure => have := HK1.out; omega
        case rel => exact ⟨(y103), (wrap64 (x8_1 + 1)), (by first | rfl | (simp; done) | (simp [*]; done)), H', ⟨by have := HK1.out; omega⟩, ⟨by (with_reducible repeat (first | apply Kd.R_alloc | apply Kd.R_drewN | apply Kd.R_drew)); exact HO105.out⟩, ⟨by repeat (first | (with_reducible first | exact HB.out | apply below_alloc | apply pw_below_drewN | apply below_drew1) | exact HB.out)⟩⟩
       ·rw [if_neg c7] at H
        exact absurd H (by simp)
     ·rw [if_neg c5] at H
      exact absurd H (by simp)
    ·rw [if_neg c4] at H
     have c4b0 : decide (x8_1 < 100) = false := decide_eq_false c4
     clear c4
     simp only [Option.some.injEq, Prod.mk.injEq] at H
     obtain ⟨rfl, rfl⟩ := H
     go_wp2
     go_ret2
     exact ⟨_, by first | rfl | (simp [errW_none, errW_some] <;> rfl) | (simp [*, errW_none, errW_some] <;> rfl), by (with_reducible repeat (first | apply Kd.R_alloc | apply Kd.R_drewN | apply Kd.R_drew)); exact HO_7.out, by repeat (first | (with_reducible first | exact HB.out | apply below_alloc | apply pw_below_drewN | apply below_drew1) | exact HB.out)⟩
   ·rw [if_neg c3] at H
    have c3b0 : decide (x8_1 < (l1.length : Int)) = false := decide_eq_false c3
    clear c3
    simp only [Option.some.injEq, Prod.mk.injEq] at H
    obtain ⟨rfl, rfl⟩ := H
    go_wp2
    go_ret2
    exact ⟨_, by first | rfl | (simp [errW_none, errW_some] <;> rfl) | (simp [*, errW_none, errW_some] <;> rfl), by (with_reducible repeat (first | apply Kd.R_alloc | apply Kd.R_drewN | apply Kd.R_drew)); exact HO_7.out, by repeat (first | (with_reducible first | exact HB.out | apply below_alloc | apply pw_below_drewN | apply below_drew1) | exact HB.out)⟩
end Go.Proofs.Ytmlhnjonmjmhdaa.H
/- GraphOrder: in whatever order edges come, and however often, all is told alike -/
namespace Go.Proofs.Ytmlhnjonmjmhdaa.H
open Go.RowKit Go.Proofs.YtmlhnjonmjmhdaaW.PrintWords
theorem tmod_in {v n : Int} (h : 0 ≤ v) (hn : 0 < n) : 0 ≤ Int.tmod v n ∧ Int.tmod v n < n := by
  rw [Int.tmod_eq_emod_of_nonneg h]
  exact ⟨Int.emod_nonneg _ (by omega), Int.emod_lt_of_pos _ hn⟩
def byteP (e : BPair) : Prop := 0 ≤ e.fst ∧ e.fst < 256 ∧ 0 ≤ e.snd ∧ e.snd < 256
theorem inE_bad {n : Nat} {es : List IPair} (h : inE n es) (hn : n ≤ 1000) : cleanBad (n : Int) es = false := by
  unfold cleanBad
  have : es.any (outP n) = false := by
    rw [List.any_eq_false]
    intro e he
    have := h e he
    unfold outP inW
    simp
    omega
  rw [this]
  simp
  omega
theorem byte_wf {v : Int} (h : (Lit.int .u8 v).wf = true) : 0 ≤ v ∧ v < 256 := by
  simp [Lit.wf, IntKind.min, IntKind.max, IntKind.signed, IntKind.bits] at h
  omega
theorem bytes_of {l : List BPair} (h : ∀ y ∈ l, bBPair y) : ∀ e ∈ l, byteP e := by
  intro e he
  obtain ⟨h1, h2⟩ := h e he
  exact ⟨(byte_wf h1).1, (byte_wf h1).2, (byte_wf h2).1, (byte_wf h2).2⟩
theorem ends_l0 {n : Nat} (hn : 0 < n) (l : List BPair) (hl : l.length ≤ 9223372036854775807) (hb : ∀ e ∈ l, byteP e) : ∀ (m i : Nat) (acc : List IPair), m = 100 - i → i ≤ 100 → acc.length = i → inE n acc → ∃ es, Ev (fun k => lambrequinlaw10_ends.l0 k l (n : Int) acc (i : Int)) ((n : Int), es) ∧ es.length ≤ 100 ∧ inE n es
  | 0, i, acc, hm, hi, ha, hin => by
    refine ⟨acc, ?_, by omega, hin⟩
    refine Ev.step (fun k => by rw [lambrequinlaw10_ends.l0]) ?_
    by_cases hc : (i : Int) < (l.length : Int)
    · exact Ev.pos hc (Ev.neg (by omega) (Ev.now _))
    · exact Ev.neg hc (Ev.now _)
  | m + 1, i, acc, hm, hi, ha, hin => by
    by_cases hc : (i : Int) < (l.length : Int)
    · obtain ⟨y, d, hd, hy⟩ := at_more (l := l) (n := i) (by omega)
      obtain ⟨h1, h2, h3, h4, h5⟩ := drop_more hd hl
      have e1 : rd_T45 l (i : Int) = y := h3 _
      have hyb := hb y (List.mem_of_getElem? hy)
      unfold byteP at hyb
      have w1 : wrap64 y.fst = y.fst := by unfold wrap64; omega
      have w2 : wrap64 y.snd = y.snd := by unfold wrap64; omega
      have t1 := tmod_in (v := y.fst) (n := (n : Int)) hyb.1 (by clear w1 w2 h5; omega)
      have t2 := tmod_in (v := y.snd) (n := (n : Int)) hyb.2.2.1 (by clear w1 w2 h5; omega)
      obtain ⟨es, he, hel, hee⟩ := ends_l0 hn l hl hb m (i + 1) (acc ++ [⟨Int.tmod y.fst n, Int.tmod y.snd n⟩]) (by clear w1 w2 h5; omega) (by clear w1 w2 h5; omega) (by rw [List.length_append, List.length_singleton, ha]) (fun e he => by
        rcases List.mem_append.1 he with he | he
        · exact hin e he
        · rw [List.mem_singleton.1 he]; exact ⟨t1.1, t1.2, t2.1, t2.2⟩)
      refine ⟨es, ?_, hel, hee⟩
      refine Ev.step (fun k => by rw [lambrequinlaw10_ends.l0]) ?_
      refine Ev.pos hc (Ev.pos ?_ (Ev.pos h2 (Ev.neg ?_ (Ev.pos ?_ ?_))))
      · clear w1 w2 h5; omega
      · clear w1 w2 h5; omega
      · clear w1 w2 h5; omega
      · rw [e1, w1, w2, h5]
        exact he
    · refine ⟨acc, ?_, by omega, hin⟩
      refine Ev.step (fun k => by rw [lambrequinlaw10_ends.l0]) ?_
      exact Ev.neg hc (Ev.now _)
theorem ends_ev (a0 : Int) (h0 : 0 ≤ a0) (h1 : a0 < 256) (l : List BPair) (hl : l.length ≤ 9223372036854775807) (hb : ∀ e ∈ l, byteP e) : ∃ (n : Nat) (es : List IPair), 0 < n ∧ n ≤ 20 ∧ Ev (fun k => lambrequinlaw10_ends.f k a0 l) ((n : Int), es) ∧ es.length ≤ 100 ∧ inE n es := by
  have ht := tmod_in (v := a0) (n := 20) h0 (by decide)
  obtain ⟨n, hn⟩ := Int.eq_ofNat_of_zero_le (a := 1 + Int.tmod a0 20) (by omega)
  have hn1 : 0 < n := by omega
  obtain ⟨es, he, hel, hee⟩ := ends_l0 hn1 l hl hb 100 0 [] rfl (by omega) rfl (fun e he => by cases he)
  refine ⟨n, es, hn1, by omega, ?_, hel, hee⟩
  unfold lambrequinlaw10_ends.f
  have e1 : wrap64 (Int.tmod a0 20) = Int.tmod a0 20 := by generalize Int.tmod a0 20 = z at *; unfold wrap64; omega
  rw [e1, hn]
  have e2 : wrap64 (n : Int) = (n : Int) := by
    have : (n : Int) < 100 := by omega
    clear e1 hn ht
    unfold wrap64
    omega
  rw [e2]
  exact he
end Go.Proofs.Ytmlhnjonmjmhdaa.H

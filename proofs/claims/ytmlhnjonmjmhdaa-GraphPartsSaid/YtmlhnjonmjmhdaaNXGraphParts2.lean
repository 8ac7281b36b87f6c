/- RowGraphParts of the seat's law GraphParts: the law holds, under the statement's own conditions. -/
import Derived.Test.YtmlhnjonmjmhdaaNXGraphParts
import Derived.Test.YtmlhnjonmjmhdaaNXGraphParts1
import Derived.Test.YtmlhnjonmjmhdaaRows
import Derived.Test.YtmlhnjonmjmhdaaNW
import Derived.WalkKit
import Derived.ProofKit
import Derived.OpenShut
import Derived.ShutString
import Derived.ChangeOld
import Derived.Below
import Derived.SizedLaws
import Derived.Carry
set_option linter.unusedVariables false
set_option linter.unusedSimpArgs false
set_option linter.unusedSectionVars false
namespace Go.Proofs.Ytmlhnjonmjmhdaa.H
open Go.RowKit Go.Proofs.YtmlhnjonmjmhdaaW.PrintWords Go.Proofs.YtmlhnjonmjmhdaaW.PrintLast Go.Proofs.YtmlhnjonmjmhdaaW.PrintMore
attribute [local go_sem] max2_int min2_int max_two min_two max_three min_three max_four min_four
mutual
def lambrequinlaw10_GraphParts.l0 : Nat → Bool → Int → List (IPair) → List (List Int) → List Int → Int → Int → Option (Bool)
 | 0, _, _, _, _, _, _, _ => none
 | k + 1, x5, x6, x7, x8, x9, x10, x11 => if x11 < (x8.length : Int) then (lambrequinlaw10_GraphParts.l1 k x5 x6 x7 x8 x9 x10 x11 0) else (lambrequinlaw10_GraphParts.l2 k x5 x6 x7 x9 x10 0)
def lambrequinlaw10_GraphParts.l1 : Nat → Bool → Int → List (IPair) → List (List Int) → List Int → Int → Int → Int → Option (Bool)
 | 0, _, _, _, _, _, _, _, _ => none
 | k + 1, x5, x6, x7, x8, x9, x10, x11, x12 => if 0 ≤ x11 then (if x11 < (x8.length : Int) then (if x12 < ((rd_L19 x8 x11).length : Int) then (if 0 ≤ x12 then (if (rd (rd_L19 x8 x11) x12) < 0 then (some false) else (if (rd (rd_L19 x8 x11) x12) ≥ x6 then (some false) else (if x12 > 0 then (if 0 ≤ (wrap64 (x12 - 1)) then (if (wrap64 (x12 - 1)) < ((rd_L19 x8 x11).length : Int) then (if (rd (rd_L19 x8 x11) x12) ≤ (rd (rd_L19 x8 x11) (wrap64 (x12 - 1))) then (some false) else (if 0 ≤ (rd (rd_L19 x8 x11) x12) then (if (rd (rd_L19 x8 x11) x12) < (x9.length : Int) then (lambrequinlaw10_GraphParts.l1 k x5 x6 x7 x8 (x9.set ((rd (rd_L19 x8 x11) x12) : Int).toNat x11) (wrap64 (x10 + 1)) x11 (wrap64 (x12 + 1))) else (none)) else (none))) else (none)) else (none)) else (if 0 ≤ (rd (rd_L19 x8 x11) x12) then (if (rd (rd_L19 x8 x11) x12) < (x9.length : Int) then (lambrequinlaw10_GraphParts.l1 k x5 x6 x7 x8 (x9.set ((rd (rd_L19 x8 x11) x12) : Int).toNat x11) (wrap64 (x10 + 1)) x11 (wrap64 (x12 + 1))) else (none)) else (none))))) else (none)) else (lambrequinlaw10_GraphParts.l0 k x5 x6 x7 x8 x9 x10 (wrap64 (x11 + 1)))) else (none)) else (none)
def lambrequinlaw10_GraphParts.l2 : Nat → Bool → Int → List (IPair) → List Int → Int → Int → Option (Bool)
 | 0, _, _, _, _, _, _ => none
 | k + 1, x5, x6, x7, x9, x10, x14 => if x14 < x6 then ((graph_Reach.f k x6 x7 x14).bind fun t119 => (lambrequinlaw10_GraphParts.l3 k x5 x6 x7 x9 x10 x14 t119 0)) else (if x5 = true then (some (x10 == x6)) else (some false))
def lambrequinlaw10_GraphParts.l3 : Nat → Bool → Int → List (IPair) → List Int → Int → Int → List Bool → Int → Option (Bool)
 | 0, _, _, _, _, _, _, _, _ => none
 | k + 1, x5, x6, x7, x9, x10, x14, x15, x16 => if x16 < x6 then ((graph_Reach.f k x6 x7 x16).bind fun t122 => (if (x15.length : Int) = x6 then (if (t122.length : Int) = x6 then (if 0 ≤ x14 then (if x14 < (x9.length : Int) then (if 0 ≤ x16 then (if x16 < (x9.length : Int) then (if x16 < (x15.length : Int) then (if rdOf false x15 x16 = true then (if x14 < (t122.length : Int) then (if (((rd x9 x14) == (rd x9 x16)) != (rdOf false t122 x14)) = true then (some false) else (if (rd x9 x16) > (rd x9 x14) then (some false) else (lambrequinlaw10_GraphParts.l3 k x5 x6 x7 x9 x10 x14 x15 (wrap64 (x16 + 1))))) else (none)) else (if (((rd x9 x14) == (rd x9 x16)) != false) = true then (some false) else (lambrequinlaw10_GraphParts.l3 k x5 x6 x7 x9 x10 x14 x15 (wrap64 (x16 + 1))))) else (none)) else (none)) else (none)) else (none)) else (none)) else (some false)) else (some false))) else (lambrequinlaw10_GraphParts.l2 k x5 x6 x7 x9 x10 (wrap64 (x14 + 1)))
end
def lambrequinlaw10_GraphParts.f (k : Nat) (a0 : Int) (l1 : List (BPair)) : Option (Bool) := (lambrequinlaw10_shown.f k).bind fun t101 => ((lambrequinlaw10_ends.f k a0 l1).bind fun bt102 => ((graph_Parts.f k bt102.1 bt102.2).bind fun t106 => (if 0 ≤ bt102.1 then (if (bt102.1 : Int).toNat ≤ 35184372088832 then (lambrequinlaw10_GraphParts.l0 k t101 bt102.1 bt102.2 t106 (List.replicate (bt102.1 : Int).toNat 0) 0 0) else (none)) else (none))))
theorem lambrequinlaw10_GraphParts.mono_l : ∀ k, (∀ y0 y1 y2 y3 y4 y5 y6, LeO (lambrequinlaw10_GraphParts.l0 k y0 y1 y2 y3 y4 y5 y6) (lambrequinlaw10_GraphParts.l0 (k + 1) y0 y1 y2 y3 y4 y5 y6)) ∧ (∀ y0 y1 y2 y3 y4 y5 y6 y7, LeO (lambrequinlaw10_GraphParts.l1 k y0 y1 y2 y3 y4 y5 y6 y7) (lambrequinlaw10_GraphParts.l1 (k + 1) y0 y1 y2 y3 y4 y5 y6 y7)) ∧ (∀ y0 y1 y2 y3 y4 y5, LeO (lambrequinlaw10_GraphParts.l2 k y0 y1 y2 y3 y4 y5) (lambrequinlaw10_GraphParts.l2 (k + 1) y0 y1 y2 y3 y4 y5)) ∧ (∀ y0 y1 y2 y3 y4 y5 y6 y7, LeO (lambrequinlaw10_GraphParts.l3 k y0 y1 y2 y3 y4 y5 y6 y7) (lambrequinlaw10_GraphParts.l3 (k + 1) y0 y1 y2 y3 y4 y5 y6 y7))
 | 0 => ⟨fun _ _ _ _ _ _ _ r h => by simp [lambrequinlaw10_GraphParts.l0] at h, fun _ _ _ _ _ _ _ _ r h => by simp [lambrequinlaw10_GraphParts.l1] at h, fun _ _ _ _ _ _ r h => by simp [lambrequinlaw10_GraphParts.l2] at h, fun _ _ _ _ _ _ _ _ r h => by simp [lambrequinlaw10_GraphParts.l3] at h⟩
 | k + 1 => by
  obtain ⟨ih0, ih1, ih2, ih3⟩ := lambrequinlaw10_GraphParts.mono_l k
  refine ⟨?_, ?_, ?_, ?_⟩
  ·intro y0 y1 y2 y3 y4 y5 y6
   unfold lambrequinlaw10_GraphParts.l0
   repeat' first
   | (with_reducible exact ih0 _ _ _ _ _ _ _)
   | (with_reducible exact ih1 _ _ _ _ _ _ _ _)
   | (with_reducible exact ih2 _ _ _ _ _ _)
   | (with_reducible exact ih3 _ _ _ _ _ _ _ _)
   | (with_reducible exact graph_Parts.mono _ _ _)
   | (with_reducible exact graph_Reach.mono _ _ _ _)
   | (with_reducible exact lambrequinlaw10_ends.mono _ _ _)
   | (with_reducible exact lambrequinlaw10_shown.mono _)
   | (with_reducible exact LeO.refl _)
   | (with_reducible exact LeO.none _)
   | (with_reducible refine LeO.ite ?_ ?_)
   | (with_reducible refine LeO.bind ?_ (fun _ => ?_))
   | exact ih0 _ _ _ _ _ _ _
   | exact ih1 _ _ _ _ _ _ _ _
   | exact ih2 _ _ _ _ _ _
   | exact ih3 _ _ _ _ _ _ _ _
   | exact graph_Parts.mono _ _ _
   | exact graph_Reach.mono _ _ _ _
   | exact lambrequinlaw10_ends.mono _ _ _
   | exact lambrequinlaw10_shown.mono _
   | exact LeO.none _
   | refine LeO.ite ?_ ?_
   | refine LeO.bind ?_ (fun _ => ?_)
  ·intro y0 y1 y2 y3 y4 y5 y6 y7
   unfold lambrequinlaw10_GraphParts.l1
   repeat' first
   | (with_reducible exact ih0 _ _ _ _ _ _ _)
   | (with_reducible exact ih1 _ _ _ _ _ _ _ _)
   | (with_reducible exact ih2 _ _ _ _ _ _)
   | (with_reducible exact ih3 _ _ _ _ _ _ _ _)
   | (with_reducible exact graph_Parts.mono _ _ _)
   | (with_reducible exact graph_Reach.mono _ _ _ _)
   | (with_reducible exact lambrequinlaw10_ends.mono _ _ _)
   | (with_reducible exact lambrequinlaw10_shown.mono _)
   | (with_reducible exact LeO.refl _)
   | (with_reducible exact LeO.none _)
   | (with_reducible refine LeO.ite ?_ ?_)
   | (with_reducible refine LeO.bind ?_ (fun _ => ?_))
   | exact ih0 _ _ _ _ _ _ _
   | exact ih1 _ _ _ _ _ _ _ _
   | exact ih2 _ _ _ _ _ _
   | exact ih3 _ _ _ _ _ _ _ _
   | exact graph_Parts.mono _ _ _
   | exact graph_Reach.mono _ _ _ _
   | exact lambrequinlaw10_ends.mono _ _ _
   | exact lambrequinlaw10_shown.mono _
   | exact LeO.none _
   | refine LeO.ite ?_ ?_
   | refine LeO.bind ?_ (fun _ => ?_)
  ·intro y0 y1 y2 y3 y4 y5
   unfold lambrequinlaw10_GraphParts.l2
   repeat' first
   | (with_reducible exact ih0 _ _ _ _ _ _ _)
   | (with_reducible exact ih1 _ _ _ _ _ _ _ _)
   | (with_reducible exact ih2 _ _ _ _ _ _)
   | (with_reducible exact ih3 _ _ _ _ _ _ _ _)
   | (with_reducible exact graph_Parts.mono _ _ _)
   | (with_reducible exact graph_Reach.mono _ _ _ _)
   | (with_reducible exact lambrequinlaw10_ends.mono _ _ _)
   | (with_reducible exact lambrequinlaw10_shown.mono _)
   | (with_reducible exact LeO.refl _)
   | (with_reducible exact LeO.none _)
   | (with_reducible refine LeO.ite ?_ ?_)
   | (with_reducible refine LeO.bind ?_ (fun _ => ?_))
   | exact ih0 _ _ _ _ _ _ _
   | exact ih1 _ _ _ _ _ _ _ _
   | exact ih2 _ _ _ _ _ _
   | exact ih3 _ _ _ _ _ _ _ _
   | exact graph_Parts.mono _ _ _
   | exact graph_Reach.mono _ _ _ _
   | exact lambrequinlaw10_ends.mono _ _ _
   | exact lambrequinlaw10_shown.mono _
   | exact LeO.none _
   | refine LeO.ite ?_ ?_
   | refine LeO.bind ?_ (fun _ => ?_)
  ·intro y0 y1 y2 y3 y4 y5 y6 y7
   unfold lambrequinlaw10_GraphParts.l3
   repeat' first
   | (with_reducible exact ih0 _ _ _ _ _ _ _)
   | (with_reducible exact ih1 _ _ _ _ _ _ _ _)
   | (with_reducible exact ih2 _ _ _ _ _ _)
   | (with_reducible exact ih3 _ _ _ _ _ _ _ _)
   | (with_reducible exact graph_Parts.mono _ _ _)
   | (with_reducible exact graph_Reach.mono _ _ _ _)
   | (with_reducible exact lambrequinlaw10_ends.mono _ _ _)
   | (with_reducible exact lambrequinlaw10_shown.mono _)
   | (with_reducible exact LeO.refl _)
   | (with_reducible exact LeO.none _)
   | (with_reducible refine LeO.ite ?_ ?_)
   | (with_reducible refine LeO.bind ?_ (fun _ => ?_))
   | exact ih0 _ _ _ _ _ _ _
   | exact ih1 _ _ _ _ _ _ _ _
   | exact ih2 _ _ _ _ _ _
   | exact ih3 _ _ _ _ _ _ _ _
   | exact graph_Parts.mono _ _ _
   | exact graph_Reach.mono _ _ _ _
   | exact lambrequinlaw10_ends.mono _ _ _
   | exact lambrequinlaw10_shown.mono _
   | exact LeO.none _
   | refine LeO.ite ?_ ?_
   | refine LeO.bind ?_ (fun _ => ?_)
theorem lambrequinlaw10_GraphParts.mono : ∀ a0 a1 k, LeO (lambrequinlaw10_GraphParts.f k a0 a1) (lambrequinlaw10_GraphParts.f (k + 1) a0 a1) := by
 intro a0 a1 k
 obtain ⟨ih0, ih1, ih2, ih3⟩ := lambrequinlaw10_GraphParts.mono_l k
 unfold lambrequinlaw10_GraphParts.f
 repeat' first
   | (with_reducible exact ih0 _ _ _ _ _ _ _)
   | (with_reducible exact ih1 _ _ _ _ _ _ _ _)
   | (with_reducible exact ih2 _ _ _ _ _ _)
   | (with_reducible exact ih3 _ _ _ _ _ _ _ _)
   | (with_reducible exact graph_Parts.mono _ _ _)
   | (with_reducible exact graph_Reach.mono _ _ _ _)
   | (with_reducible exact lambrequinlaw10_ends.mono _ _ _)
   | (with_reducible exact lambrequinlaw10_shown.mono _)
   | (with_reducible exact LeO.refl _)
   | (with_reducible exact LeO.none _)
   | (with_reducible refine LeO.ite ?_ ?_)
   | (with_reducible refine LeO.bind ?_ (fun _ => ?_))
   | exact ih0 _ _ _ _ _ _ _
   | exact ih1 _ _ _ _ _ _ _ _
   | exact ih2 _ _ _ _ _ _
   | exact ih3 _ _ _ _ _ _ _ _
   | exact graph_Parts.mono _ _ _
   | exact graph_Reach.mono _ _ _ _
   | exact lambrequinlaw10_ends.mono _ _ _
   | exact lambrequinlaw10_shown.mono _
   | exact LeO.none _
   | refine LeO.ite ?_ ?_
   | refine LeO.bind ?_ (fun _ => ?_)
set_option maxHeartbeats 8000000 in
set_option maxRecDepth 100000 in
theorem lambrequinlaw10_GraphParts.calls (k : Nat) (a0 : Int) (A1 : Option Addr) (c1 : Nat) (l1 : List (BPair)) (r : Bool) (w : World) (hr1 : Kd.C k45 w A1 l1.length l1) (hc1 : l1.length ≤ c1) (h : lambrequinlaw10_GraphParts.f k a0 l1 = some r) :
  Calls Try.prog 5 #[.int .u8 a0, .slice A1 l1.length c1] w fun e w' => e = .returned (.bool r) ∧ Below w.heap.size w w' := by
 have HR1 := am hr1
 have HC1 := am hc1
 clear hr1 hc1
 have HB := am (Below.refl w.heap.size w)
 have H : ((lambrequinlaw10_shown.f k).bind fun t101 => ((lambrequinlaw10_ends.f k a0 l1).bind fun bt102 => ((graph_Parts.f k bt102.1 bt102.2).bind fun t106 => (if 0 ≤ bt102.1 then (if (bt102.1 : Int).toNat ≤ 35184372088832 then (lambrequinlaw10_GraphParts.l0 k t101 bt102.1 bt102.2 t106 (List.replicate (bt102.1 : Int).toNat 0) 0 0) else (none)) else (none))))) = some r := h
 clear h
 replace H := Option.bind_eq_some_iff.mp H
 obtain ⟨t101, A30, H⟩ := H
 replace H : ((lambrequinlaw10_ends.f k a0 l1).bind fun bt102 => ((graph_Parts.f k bt102.1 bt102.2).bind fun t106 => (if 0 ≤ bt102.1 then (if (bt102.1 : Int).toNat ≤ 35184372088832 then (lambrequinlaw10_GraphParts.l0 k t101 bt102.1 bt102.2 t106 (List.replicate (bt102.1 : Int).toNat 0) 0 0) else (none)) else (none)))) = some r := H
 have A3 := am A30
 clear A30
 replace H := Option.bind_eq_some_iff.mp H
 obtain ⟨⟨t102, t103⟩, A40, H⟩ := H
 replace H : ((graph_Parts.f k t102 t103).bind fun t106 => (if 0 ≤ t102 then (if (t102 : Int).toNat ≤ 35184372088832 then (lambrequinlaw10_GraphParts.l0 k t101 t102 t103 t106 (List.replicate (t102 : Int).toNat 0) 0 0) else (none)) else (none))) = some r := H
 have A4 := am A40
 clear A40
 replace H := Option.bind_eq_some_iff.mp H
 obtain ⟨t106, A50, H⟩ := H
 replace H : (if 0 ≤ t102 then (if (t102 : Int).toNat ≤ 35184372088832 then (lambrequinlaw10_GraphParts.l0 k t101 t102 t103 t106 (List.replicate (t102 : Int).toNat 0) 0 0) else (none)) else (none)) = some r := H
 have A5 := am A50
 clear A50
 by_cases c6 : 0 ≤ t102
 ·rw [if_pos c6] at H
  have c6b0 := eq_true c6
  have c6b1 : decide (0 ≤ t102) = true := decide_eq_true c6
  clear c6
  by_cases c7 : (t102 : Int).toNat ≤ 35184372088832
  ·rw [if_pos c7] at H
   have c7b0 := eq_true c7
   have c7b1 : decide ((t102 : Int).toNat ≤ 35184372088832) = true := decide_eq_true c7
   clear c7
   obtain ⟨y109, hy109⟩ : ∃ y_ : List Int, y_ = (List.replicate (t102 : Int).toNat 0) := ⟨_, rfl⟩
   replace H : (lambrequinlaw10_GraphParts.l0 k t101 t102 t103 t106 y109 0 0) = some r := by first | (rw [hy109]; with_reducible exact H) | (have H2_ := (Option.bind_some _ _).symm.trans H; rw [hy109]; with_reducible exact H2_) | (have H2_ := (Option.bind_some _ _).symm.trans H; with_reducible exact H2_) | with_reducible exact H | (rw [hy109]; exact H) | exact H
   have Ny109 := am hy109
   clear hy109
   have H' := am H
   clear H
   go_enter Try.func5, Try.ntmps5
   go_wp2_with (first | (go_at_call 14; (with_reducible refine (lambrequinlaw10_shown.calls k  t101 _ A3.out).mono ?_); rintro e w8 ⟨rfl, hb⟩; replace HB := am (below_step (by repeat (first | (with_reducible first | exact HB.out | apply lA | apply lN | apply lD) | exact HB.out)) hb); (try clear hb); (try clear hb2); (try clear hk); (try clear hi)) | (go_at_call 15; (with_reducible refine (lambrequinlaw10_ends.calls k a0 _ _ l1 t102 t103 _ ?side1 ?side2 A4.out).mono ?_); (case side1 => repeat (first | exact (Kd.C_below HR1.out HB.out) | (with_reducible refine Kd.C_alloc ?_ _) | (with_reducible refine Kd.C_drewN ?_ _) | (with_reducible refine Kd.C_drew ?_))); (case side2 => exact HC1.out); rintro e w9 ⟨v104, rfl, ho0, hb⟩; have HO105 := am (Kd.R_lower ho0 (below_size (by repeat (first | (with_reducible first | exact HB.out | apply lA | apply lN | apply lD) | exact HB.out)))); replace HB := am (below_step (by repeat (first | (with_reducible first | exact HB.out | apply lA | apply lN | apply lD) | exact HB.out)) hb); (try clear hb); (try clear hb2); (try clear hk); (try clear hi); (try clear ho0); obtain ⟨Ao10, co10, eo10⟩ := Kd.R_slice HO105.out; subst eo10) | (go_at_call 18; (with_reducible refine (graph_Parts.calls k t102 _ _ t103 t106 _ ?side1 ?side2 A5.out).mono ?_); (case side1 => repeat (first | exact (Kd.R_reads' HO105.out).2.2 | (with_reducible refine Kd.C_alloc ?_ _) | (with_reducible refine Kd.C_drewN ?_ _) | (with_reducible refine Kd.C_drew ?_))); (case side2 => exact (Kd.R_reads' HO105.out).2.1); rintro e w11 ⟨v107, rfl, ho0, hb⟩; replace HO105 := am (Kd.R_below (by (with_reducible repeat (first | apply Ra | apply Rn | apply Rd)); exact HO105.out) hb); have HO108 := am (Kd.S_lower ho0 (below_size (by repeat (first | (with_reducible first | exact HB.out | apply lA | apply lN | apply lD) | exact HB.out)))); replace HB := am (below_step (by repeat (first | (with_reducible first | exact HB.out | apply lA | apply lN | apply lD) | exact HB.out)) hb); (try clear hb); (try clear hb2); (try clear hk); (try clear hi); (try clear ho0)) | ((with_reducible refine gate_dst (N := 29) rfl ?_); (try (refine gate_guard (by rfl) ?_; dsimp only)); refine Kd.R_make (Kd.int .i64) _ 3 rfl (N := 29) rfl 35 _ _ rfl t102 rfl rfl Try.underlying35 (.int .i64 0) 8 info3 rfl (by decide) (by omega) 0 (ok := fun _ => True) (okp := fun _ => True) rfl (fun _ hk => hk) trivial (of_decide_eq_true (by first | (with_reducible assumption) | assumption)) (Nat.le_trans (Nat.mul_le_mul_right _ (of_decide_eq_true (by first | (with_reducible assumption) | assumption) : t102.toNat ≤ 35184372088832)) (by omega)) (Below.refl _ _) (Nat.le_refl _) ?_; intro v110 w12 ho13 hb hg_ hnew_; clear hg_ hnew_; (first | rw [← Ny109.out] at ho13 | (simp only [Int.reduceToNat] at ho13; rw [← Ny109.out] at ho13)); replace HO105 := am (Kd.R_below (by (with_reducible repeat (first | apply Ra | apply Rn | apply Rd)); exact HO105.out) hb); replace HO108 := am (Kd.S_elder' (by (with_reducible repeat (first | apply Kd.S_alloc | apply Kd.S_drewN | apply Kd.S_drew)); exact HO108.out) (Kd.R_base ho13) hb); have HO111 := am (Kd.R_lower ho13 (below_size (by repeat (first | (with_reducible first | exact HB.out | apply lA | apply lN | apply lD) | exact HB.out)))); replace HB := am (below_step (by repeat (first | (with_reducible first | exact HB.out | apply lA | apply lN | apply lD) | exact HB.out)) hb); clear hb ho13))
   repeat (go_quiet (first | (go_at_call 14; (with_reducible refine (lambrequinlaw10_shown.calls k  t101 _ A3.out).mono ?_); rintro e w8 ⟨rfl, hb⟩; replace HB := am (below_step (by repeat (first | (with_reducible first | exact HB.out | apply lA | apply lN | apply lD) | exact HB.out)) hb); (try clear hb); (try clear hb2); (try clear hk); (try clear hi)) | (go_at_call 15; (with_reducible refine (lambrequinlaw10_ends.calls k a0 _ _ l1 t102 t103 _ ?side1 ?side2 A4.out).mono ?_); (case side1 => repeat (first | exact (Kd.C_below HR1.out HB.out) | (with_reducible refine Kd.C_alloc ?_ _) | (with_reducible refine Kd.C_drewN ?_ _) | (with_reducible refine Kd.C_drew ?_))); (case side2 => exact HC1.out); rintro e w9 ⟨v104, rfl, ho0, hb⟩; have HO105 := am (Kd.R_lower ho0 (below_size (by repeat (first | (with_reducible first | exact HB.out | apply lA | apply lN | apply lD) | exact HB.out)))); replace HB := am (below_step (by repeat (first | (with_reducible first | exact HB.out | apply lA | apply lN | apply lD) | exact HB.out)) hb); (try clear hb); (try clear hb2); (try clear hk); (try clear hi); (try clear ho0); obtain ⟨Ao10, co10, eo10⟩ := Kd.R_slice HO105.out; subst eo10) | (go_at_call 18; (with_reducible refine (graph_Parts.calls k t102 _ _ t103 t106 _ ?side1 ?side2 A5.out).mono ?_); (case side1 => repeat (first | exact (Kd.R_reads' HO105.out).2.2 | (with_reducible refine Kd.C_alloc ?_ _) | (with_reducible refine Kd.C_drewN ?_ _) | (with_reducible refine Kd.C_drew ?_))); (case side2 => exact (Kd.R_reads' HO105.out).2.1); rintro e w11 ⟨v107, rfl, ho0, hb⟩; replace HO105 := am (Kd.R_below (by (with_reducible repeat (first | apply Ra | apply Rn | apply Rd)); exact HO105.out) hb); have HO108 := am (Kd.S_lower ho0 (below_size (by repeat (first | (with_reducible first | exact HB.out | apply lA | apply lN | apply lD) | exact HB.out)))); replace HB := am (below_step (by repeat (first | (with_reducible first | exact HB.out | apply lA | apply lN | apply lD) | exact HB.out)) hb); (try clear hb); (try clear hb2); (try clear hk); (try clear hi); (try clear ho0)) | ((with_reducible refine gate_dst (N := 29) rfl ?_); (try (refine gate_guard (by rfl) ?_; dsimp only)); refine Kd.R_make (Kd.int .i64) _ 3 rfl (N := 29) rfl 35 _ _ rfl t102 rfl rfl Try.underlying35 (.int .i64 0) 8 info3 rfl (by decide) (by omega) 0 (ok := fun _ => True) (okp := fun _ => True) rfl (fun _ hk => hk) trivial (of_decide_eq_true (by first | (with_reducible assumption) | assumption)) (Nat.le_trans (Nat.mul_le_mul_right _ (of_decide_eq_true (by first | (with_reducible assumption) | assumption) : t102.toNat ≤ 35184372088832)) (by omega)) (Below.refl _ _) (Nat.le_refl _) ?_; intro v110 w12 ho13 hb hg_ hnew_; clear hg_ hnew_; (first | rw [← Ny109.out] at ho13 | (simp only [Int.reduceToNat] at ho13; rw [← Ny109.out] at ho13)); replace HO105 := am (Kd.R_below (by (with_reducible repeat (first | apply Ra | apply Rn | apply Rd)); exact HO105.out) hb); replace HO108 := am (Kd.S_elder' (by (with_reducible repeat (first | apply Kd.S_alloc | apply Kd.S_drewN | apply Kd.S_drew)); exact HO108.out) (Kd.R_base ho13) hb); have HO111 := am (Kd.R_lower ho13 (below_size (by repeat (first | (with_reducible first | exact HB.out | apply lA | apply lN | apply lD) | exact HB.out)))); replace HB := am (below_step (by repeat (first | (with_reducible first | exact HB.out | apply lA | apply lN | apply lD) | exact HB.out)) hb); clear hb ho13)); try go_wp2_with (first | (go_at_call 14; (with_reducible refine (lambrequinlaw10_shown.calls k  t101 _ A3.out).mono ?_); rintro e w8 ⟨rfl, hb⟩; replace HB := am (below_step (by repeat (first | (with_reducible first | exact HB.out | apply lA | apply lN | apply lD) | exact HB.out)) hb); (try clear hb); (try clear hb2); (try clear hk); (try clear hi)) | (go_at_call 15; (with_reducible refine (lambrequinlaw10_ends.calls k a0 _ _ l1 t102 t103 _ ?side1 ?side2 A4.out).mono ?_); (case side1 => repeat (first | exact (Kd.C_below HR1.out HB.out) | (with_reducible refine Kd.C_alloc ?_ _) | (with_reducible refine Kd.C_drewN ?_ _) | (with_reducible refine Kd.C_drew ?_))); (case side2 => exact HC1.out); rintro e w9 ⟨v104, rfl, ho0, hb⟩; have HO105 := am (Kd.R_lower ho0 (below_size (by repeat (first | (with_reducible first | exact HB.out | apply lA | apply lN | apply lD) | exact HB.out)))); replace HB := am (below_step (by repeat (first | (with_reducible first | exact HB.out | apply lA | apply lN | apply lD) | exact HB.out)) hb); (try clear hb); (try clear hb2); (try clear hk); (try clear hi); (try clear ho0); obtain ⟨Ao10, co10, eo10⟩ := Kd.R_slice HO105.out; subst eo10) | (go_at_call 18; (with_reducible refine (graph_Parts.calls k t102 _ _ t103 t106 _ ?side1 ?side2 A5.out).mono ?_); (case side1 => repeat (first | exact (Kd.R_reads' HO105.out).2.2 | (with_reducible refine Kd.C_alloc ?_ _) | (with_reducible refine Kd.C_drewN ?_ _) | (with_reducible refine Kd.C_drew ?_))); (case side2 => exact (Kd.R_reads' HO105.out).2.1); rintro e w11 ⟨v107, rfl, ho0, hb⟩; replace HO105 := am (Kd.R_below (by (with_reducible repeat (first | apply Ra | apply Rn | apply Rd)); exact HO105.out) hb); have HO108 := am (Kd.S_lower ho0 (below_size (by repeat (first | (with_reducible first | exact HB.out | apply lA | apply lN | apply lD) | exact HB.out)))); replace HB := am (below_step (by repeat (first | (with_reducible first | exact HB.out | apply lA | apply lN | apply lD) | exact HB.out)) hb); (try clear hb); (try clear hb2); (try clear hk); (try clear hi); (try clear ho0)) | ((with_reducible refine gate_dst (N := 29) rfl ?_); (try (refine gate_guard (by rfl) ?_; dsimp only)); refine Kd.R_make (Kd.int .i64) _ 3 rfl (N := 29) rfl 35 _ _ rfl t102 rfl rfl Try.underlying35 (.int .i64 0) 8 info3 rfl (by decide) (by omega) 0 (ok := fun _ => True) (okp := fun _ => True) rfl (fun _ hk => hk) trivial (of_decide_eq_true (by first | (with_reducible assumption) | assumption)) (Nat.le_trans (Nat.mul_le_mul_right _ (of_decide_eq_true (by first | (with_reducible assumption) | assumption) : t102.toNat ≤ 35184372088832)) (by omega)) (Below.refl _ _) (Nat.le_refl _) ?_; intro v110 w12 ho13 hb hg_ hnew_; clear hg_ hnew_; (first | rw [← Ny109.out] at ho13 | (simp only [Int.reduceToNat] at ho13; rw [← Ny109.out] at ho13)); replace HO105 := am (Kd.R_below (by (with_reducible repeat (first | apply Ra | apply Rn | apply Rd)); exact HO105.out) hb); replace HO108 := am (Kd.S_elder' (by (with_reducible repeat (first | apply Kd.S_alloc | apply Kd.S_drewN | apply Kd.S_drew)); exact HO108.out) (Kd.R_base ho13) hb); have HO111 := am (Kd.R_lower ho13 (below_size (by repeat (first | (with_reducible first | exact HB.out | apply lA | apply lN | apply lD) | exact HB.out)))); replace HB := am (below_step (by repeat (first | (with_reducible first | exact HB.out | apply lA | apply lN | apply lD) | exact HB.out)) hb); clear hb ho13)))
   go_loopg [10, 11] k (fun kq v10 v11 w' => ∃ (x9_1 : List Int) (x10_1 : Int) (x11_1 : Int), v10 = .int .i64 x10_1 ∧ v11 = .int .i64 x11_1 ∧ Aside0 (lambrequinlaw10_GraphParts.l0 kq t101 t102 t103 t106 x9_1 x10_1 x11_1 = some r) ∧ Aside0 (kq ≤ k) ∧ Aside0 (Kd.R k27 27 w' w.heap.size (fun _ => True) (.slice Ao10 t103.length co10) t103) ∧ Aside0 (Kd.S (Kd.slice 3 (Kd.int .i64)) 35 w' w.heap.size (fun k_ => some k_ ≠ (v110 : Value).ownBlock) v107 t106) ∧ Aside0 (Kd.R (Kd.int .i64) 3 w' w.heap.size (fun _ => True) v110 x9_1) ∧ Aside0 (Below w.heap.size w w'))
   case atStart => exact ⟨(y109), (0), (0), (by first | rfl | (simp; done) | (simp [*]; done)), (by first | rfl | (simp; done) | (simp [*]; done)), H', ⟨Nat.le_refl _⟩, ⟨by (with_reducible repeat (first | apply Ra | apply Rn | apply Rd)); exact HO105.out⟩, ⟨by (with_reducible repeat (first | apply Kd.S_alloc | apply Kd.S_drewN | apply Kd.S_drew)); exact Kd.S_mono HO108.out (fun _ hk => hk.2)⟩, ⟨by (with_reducible repeat (first | apply Ra | apply Rn | apply Rd)); exact HO111.out⟩, ⟨by repeat (first | (with_reducible first | exact HB.out | apply lA | apply lN | apply lD) | exact HB.out)⟩⟩
   case round =>
    clear H'
    try clear c1
    try clear p2
    try clear c5
    try clear c6
    try clear c6b0
    try clear c6b1
    try clear c7
    try clear c7b0
    try clear c7b1
    obtain ⟨x9_1, x10_1, x11_1, rfl, rfl, HA, HK1, HO_7, HO_8, HO_9, HB⟩ := hrel
    cases gk with
    | zero => exact absurd HA.out (by simp [lambrequinlaw10_GraphParts.l0])
    | succ k1 =>
     have H := HA.out
     clear HA
     simp only [lambrequinlaw10_GraphParts.l0] at H
     by_cases c14 : x11_1 < (t106.length : Int)
     ·rw [if_pos c14] at H
      have c14b0 : decide (x11_1 < (t106.length : Int)) = true := decide_eq_true c14
      clear c14
      have H' := am H
      clear H
      obtain ⟨Ao15, co15, eo15⟩ := Kd.S_slice HO_8.out
      subst eo15
      go_wp2
      repeat (go_quiet (fail); try go_wp2)
      go_loopg [10, 12] k1 (fun kq v10 v12 w' => ∃ (x9_2 : List Int) (x10_2 : Int) (x12_2 : Int), v10 = .int .i64 x10_2 ∧ v12 = .int .i64 x12_2 ∧ Aside0 (lambrequinlaw10_GraphParts.l1 kq t101 t102 t103 t106 x9_2 x10_2 x11_1 x12_2 = some r) ∧ Aside0 (kq ≤ k1) ∧ Aside0 (Kd.R k27 27 w' w.heap.size (fun _ => True) (.slice Ao10 t103.length co10) t103) ∧ Aside0 (Kd.S (Kd.slice 3 (Kd.int .i64)) 35 w' w.heap.size (fun k_ => some k_ ≠ (v110 : Value).ownBlock) (.slice Ao15 t106.length co15) t106) ∧ Aside0 (Kd.R (Kd.int .i64) 3 w' w.heap.size (fun _ => True) v110 x9_2) ∧ Aside0 (Below w.heap.size w w'))
      case atStart => exact ⟨(x9_1), (x10_1), (0), (by first | rfl | (simp; done) | (simp [*]; done)), (by first | rfl | (simp; done) | (simp [*]; done)), H', ⟨Nat.le_refl _⟩, ⟨by (with_reducible repeat (first | apply Ra | apply Rn | apply Rd)); exact HO_7.out⟩, ⟨by (with_reducible repeat (first | apply Kd.S_alloc | apply Kd.S_drewN | apply Kd.S_drew)); exact HO_8.out⟩, ⟨by (with_reducible repeat (first | apply Ra | apply Rn | apply Rd)); exact HO_9.out⟩, ⟨by repeat (first | (with_reducible first | exact HB.out | apply lA | apply lN | apply lD) | exact HB.out)⟩⟩
      case round =>
       clear H'
       try clear c1
       try clear p2
       try clear c5
       try clear c6
       try clear c6b0
       try clear c6b1
       try clear c7
       try clear c7b0
       try clear c7b1
       try clear c14
       try clear c14b0
       try clear p2
       obtain ⟨x9_2, x10_2, x12_2, rfl, rfl, HA, HK2, HO_7, HO_8, HO_9, HB⟩ := hrel
       cases gk with
       | zero => exact absurd HA.out (by simp [lambrequinlaw10_GraphParts.l1])
       | succ k2 =>
        have H := HA.out
        clear HA
        simp only [lambrequinlaw10_GraphParts.l1] at H
        by_cases c16 : 0 ≤ x11_1
        ·rw [if_pos c16] at H
         have c16b0 : decide (0 ≤ x11_1) = true := decide_eq_true c16
         clear c16
         by_cases c17 : x11_1 < (t106.length : Int)
         ·rw [if_pos c17] at H
          have c17b0 : decide (x11_1 < (t106.length : Int)) = true := decide_eq_true c17
          clear c17
          by_cases c18 : x12_2 < ((rd_L19 t106 x11_1).length : Int)
          ·rw [if_pos c18] at H
           have c18b0 : decide (x12_2 < ((rd_L19 t106 x11_1).length : Int)) = true := decide_eq_true c18
           clear c18
           by_cases c19 : 0 ≤ x12_2
           ·rw [if_pos c19] at H
            have c19b0 : decide (0 ≤ x12_2) = true := decide_eq_true c19
            clear c19
            by_cases c20 : (rd (rd_L19 t106 x11_1) x12_2) < 0
            ·rw [if_pos c20] at H
             have c20b0 : decide ((rd (rd_L19 t106 x11_1) x12_2) < 0) = true := decide_eq_true c20
             clear c20
             obtain rfl := Option.some.inj H
             have p112 : 0 ≤ (x11_1 : Int) := of_decide_eq_true (by first | (with_reducible assumption) | assumption)
             have q112 : x11_1 < (t106.length : Int) := of_decide_eq_true (by first | (with_reducible assumption) | assumption)
             obtain ⟨ad112, A112_0, c112_0, e112, hx112_0, hl112_0, hi112_0⟩ := at_L19 (Kd.S_reads' HO_8.out).2.2 x11_1 p112 q112
             cases e112
             obtain ⟨ce112, hce112, hMe112, hcc112⟩ := Kd.S_get HO_8.out [] x11_1 p112 (by first | exact q112 | exact of_decide_eq_true (by first | (with_reducible assumption) | assumption) | (have e_ := (Kd.S_reads' HO_8.out).1; omega))
             obtain ⟨ve112_0, rfl, ge112_0⟩ := hMe112
             have hv112_0 := hcc112 0 _ rfl
             rw [Nat.add_zero, show ((Kd.slice 3 (Kd.int .i64))).sz = 1 from rfl, Nat.mul_one] at hv112_0
             replace hv112_0 := Option.some.inj (hv112_0.symm.trans hx112_0)
             rw [hv112_0] at ge112_0
             have HL112_0 := am (show Kd.R (Kd.int .i64) 3 _ _ _ _ (rd_L19 t106 x11_1) from ge112_0)
             clear hv112_0 ge112_0
             clear hcc112 hce112
             have HR112_0 := am hi112_0
             have HC112_0 := am hl112_0
             clear hi112_0 hl112_0
             replace p112 := eq_true p112
             replace q112 := eq_true q112
             have p113 : 0 ≤ (x11_1 : Int) := of_decide_eq_true (by first | (with_reducible assumption) | assumption)
             have q113 : x11_1 < (t106.length : Int) := of_decide_eq_true (by first | (with_reducible assumption) | assumption)
             obtain ⟨ad113, A113_0, c113_0, e113, hx113_0, hl113_0, hi113_0⟩ := at_L19 (Kd.S_reads' HO_8.out).2.2 x11_1 p113 q113
             obtain rfl : ad112 = ad113 := (by injection e113)
             obtain ⟨ce113, hce113, hMe113, hcc113⟩ := Kd.S_get HO_8.out [] x11_1 p113 (by first | exact q113 | exact of_decide_eq_true (by first | (with_reducible assumption) | assumption) | (have e_ := (Kd.S_reads' HO_8.out).1; omega))
             obtain ⟨ve113_0, rfl, ge113_0⟩ := hMe113
             have hv113_0 := hcc113 0 _ rfl
             rw [Nat.add_zero, show ((Kd.slice 3 (Kd.int .i64))).sz = 1 from rfl, Nat.mul_one] at hv113_0
             replace hv113_0 := Option.some.inj (hv113_0.symm.trans hx113_0)
             rw [hv113_0] at ge113_0
             have HL113_0 := am (show Kd.R (Kd.int .i64) 3 _ _ _ _ (rd_L19 t106 x11_1) from ge113_0)
             clear hv113_0 ge113_0
             clear hcc113 hce113
             have HR113_0 := am hi113_0
             have HC113_0 := am hl113_0
             clear hi113_0 hl113_0
             replace p113 := eq_true p113
             replace q113 := eq_true q113
             have ea_ := Option.some.inj (hx112_0.symm.trans hx113_0)
             injection ea_ with ea_ en_ ec_
             subst ea_
             subst ec_
             clear en_
             have p114 : 0 ≤ (x12_2 : Int) := of_decide_eq_true (by first | (with_reducible assumption) | assumption)
             have q114 : x12_2 < ((rd_L19 t106 x11_1).length : Int) := of_decide_eq_true (by first | (with_reducible assumption) | assumption)
             obtain ⟨ad114, e114, hx114_0⟩ := Kd.at_int (by repeat (first | (with_reducible exact HR113_0.out) | (with_reducible refine Kd.C_alloc ?_ _) | (with_reducible refine Kd.C_drewN ?_ _) | (with_reducible refine Kd.C_drew ?_) | exact HR113_0.out)) x12_2 p114 q114
             cases e114
             replace p114 := eq_true p114
             replace q114 := eq_true q114
             go_wp2
             repeat (go_quiet (fail); try go_wp2)
             go_ret
             exact ⟨by first | rfl | (simp [errW_none, errW_some] <;> rfl) | (simp [*, errW_none, errW_some] <;> rfl), by repeat (first | (with_reducible first | exact HB.out | apply lA | apply lN | apply lD) | exact HB.out)⟩
            ·rw [if_neg c20] at H
             have c20b0 : decide ((rd (rd_L19 t106 x11_1) x12_2) < 0) = false := decide_eq_false c20
             clear c20
             by_cases c21 : (rd (rd_L19 t106 x11_1) x12_2) ≥ t102
             ·rw [if_pos c21] at H
              have c21b0 : decide (t102 ≤ (rd (rd_L19 t106 x11_1) x12_2)) = true := decide_eq_true c21
              clear c21
              obtain rfl := Option.some.inj H
              have p112 : 0 ≤ (x11_1 : Int) := of_decide_eq_true (by first | (with_reducible assumption) | assumption)
              have q112 : x11_1 < (t106.length : Int) := of_decide_eq_true (by first | (with_reducible assumption) | assumption)
              obtain ⟨ad112, A112_0, c112_0, e112, hx112_0, hl112_0, hi112_0⟩ := at_L19 (Kd.S_reads' HO_8.out).2.2 x11_1 p112 q112
              cases e112
              obtain ⟨ce112, hce112, hMe112, hcc112⟩ := Kd.S_get HO_8.out [] x11_1 p112 (by first | exact q112 | exact of_decide_eq_true (by first | (with_reducible assumption) | assumption) | (have e_ := (Kd.S_reads' HO_8.out).1; omega))
              obtain ⟨ve112_0, rfl, ge112_0⟩ := hMe112
              have hv112_0 := hcc112 0 _ rfl
              rw [Nat.add_zero, show ((Kd.slice 3 (Kd.int .i64))).sz = 1 from rfl, Nat.mul_one] at hv112_0
              replace hv112_0 := Option.some.inj (hv112_0.symm.trans hx112_0)
              rw [hv112_0] at ge112_0
              have HL112_0 := am (show Kd.R (Kd.int .i64) 3 _ _ _ _ (rd_L19 t106 x11_1) from ge112_0)
              clear hv112_0 ge112_0
              clear hcc112 hce112
              have HR112_0 := am hi112_0
              have HC112_0 := am hl112_0
              clear hi112_0 hl112_0
              replace p112 := eq_true p112
              replace q112 := eq_true q112
              have p113 : 0 ≤ (x11_1 : Int) := of_decide_eq_true (by first | (with_reducible assumption) | assumption)
              have q113 : x11_1 < (t106.length : Int) := of_decide_eq_true (by first | (with_reducible assumption) | assumption)
              obtain ⟨ad113, A113_0, c113_0, e113, hx113_0, hl113_0, hi113_0⟩ := at_L19 (Kd.S_reads' HO_8.out).2.2 x11_1 p113 q113
              obtain rfl : ad112 = ad113 := (by injection e113)
              obtain ⟨ce113, hce113, hMe113, hcc113⟩ := Kd.S_get HO_8.out [] x11_1 p113 (by first | exact q113 | exact of_decide_eq_true (by first | (with_reducible assumption) | assumption) | (have e_ := (Kd.S_reads' HO_8.out).1; omega))
              obtain ⟨ve113_0, rfl, ge113_0⟩ := hMe113
              have hv113_0 := hcc113 0 _ rfl
              rw [Nat.add_zero, show ((Kd.slice 3 (Kd.int .i64))).sz = 1 from rfl, Nat.mul_one] at hv113_0
              replace hv113_0 := Option.some.inj (hv113_0.symm.trans hx113_0)
              rw [hv113_0] at ge113_0
              have HL113_0 := am (show Kd.R (Kd.int .i64) 3 _ _ _ _ (rd_L19 t106 x11_1) from ge113_0)
              clear hv113_0 ge113_0
              clear hcc113 hce113
              have HR113_0 := am hi113_0
              have HC113_0 := am hl113_0
              clear hi113_0 hl113_0
              replace p113 := eq_true p113
              replace q113 := eq_true q113
              have ea_ := Option.some.inj (hx112_0.symm.trans hx113_0)
              injection ea_ with ea_ en_ ec_
              subst ea_
              subst ec_
              clear en_
              have p114 : 0 ≤ (x12_2 : Int) := of_decide_eq_true (by first | (with_reducible assumption) | assumption)
              have q114 : x12_2 < ((rd_L19 t106 x11_1).length : Int) := of_decide_eq_true (by first | (with_reducible assumption) | assumption)
              obtain ⟨ad114, e114, hx114_0⟩ := Kd.at_int (by repeat (first | (with_reducible exact HR113_0.out) | (with_reducible refine Kd.C_alloc ?_ _) | (with_reducible refine Kd.C_drewN ?_ _) | (with_reducible refine Kd.C_drew ?_) | exact HR113_0.out)) x12_2 p114 q114
              cases e114
              replace p114 := eq_true p114
              replace q114 := eq_true q114
              go_wp2
              repeat (go_quiet (fail); try go_wp2)
              go_ret
              exact ⟨by first | rfl | (simp [errW_none, errW_some] <;> rfl) | (simp [*, errW_none, errW_some] <;> rfl), by repeat (first | (with_reducible first | exact HB.out | apply lA | apply lN | apply lD) | exact HB.out)⟩
             ·rw [if_neg c21] at H
              have c21b0 : decide (t102 ≤ (rd (rd_L19 t106 x11_1) x12_2)) = false := decide_eq_false c21
              clear c21
              by_cases c22 : x12_2 > 0
              ·rw [if_pos c22] at H
               have c22b0 : decide (0 < x12_2) = true := decide_eq_true c22
               clear c22
               obtain ⟨ji23, hji23⟩ : ∃ j_ : Int, (wrap64 (x12_2 - 1)) = j_ := ⟨_, rfl⟩
               replace H : (if 0 ≤ (ji23) then (if (ji23) < ((rd_L19 t106 x11_1).length : Int) then (if (rd (rd_L19 t106 x11_1) x12_2) ≤ (rd (rd_L19 t106 x11_1) (ji23)) then (some false) else (if 0 ≤ (rd (rd_L19 t106 x11_1) x12_2) then (if (rd (rd_L19 t106 x11_1) x12_2) < (x9_2.length : Int) then (lambrequinlaw10_GraphParts.l1 k2 t101 t102 t103 t106 (x9_2.set ((rd (rd_L19 t106 x11_1) x12_2) : Int).toNat x11_1) (wrap64 (x10_2 + 1)) x11_1 (wrap64 (x12_2 + 1))) else (none)) else (none))) else (none)) else (none)) = some r := by first | (rw [hji23] at H; exact H) | (simp only [hji23] at H ⊢; exact H)
               have hji23w : (IntKind.i64.wrap (x12_2 - 1)) = ji23 := (i64_w _).trans hji23
               by_cases c24 : 0 ≤ (ji23)
               ·rw [if_pos c24] at H
                have c24b0 : decide (0 ≤ (ji23)) = true := decide_eq_true c24
                clear c24
                by_cases c25 : (ji23) < ((rd_L19 t106 x11_1).length : Int)
                ·rw [if_pos c25] at H
                 have c25b0 : decide ((ji23) < ((rd_L19 t106 x11_1).length : Int)) = true := decide_eq_true c25
                 clear c25
                 by_cases c26 : (rd (rd_L19 t106 x11_1) x12_2) ≤ (rd (rd_L19 t106 x11_1) (ji23))
                 ·rw [if_pos c26] at H
                  have c26b0 : decide ((rd (rd_L19 t106 x11_1) x12_2) ≤ (rd (rd_L19 t106 x11_1) (ji23))) = true := decide_eq_true c26
                  clear c26
                  obtain rfl := Option.some.inj H
                  have p112 : 0 ≤ (x11_1 : Int) := of_decide_eq_true (by first | (with_reducible assumption) | assumption)
                  have q112 : x11_1 < (t106.length : Int) := of_decide_eq_true (by first | (with_reducible assumption) | assumption)
                  obtain ⟨ad112, A112_0, c112_0, e112, hx112_0, hl112_0, hi112_0⟩ := at_L19 (Kd.S_reads' HO_8.out).2.2 x11_1 p112 q112
                  cases e112
                  obtain ⟨ce112, hce112, hMe112, hcc112⟩ := Kd.S_get HO_8.out [] x11_1 p112 (by first | exact q112 | exact of_decide_eq_true (by first | (with_reducible assumption) | assumption) | (have e_ := (Kd.S_reads' HO_8.out).1; omega))
                  obtain ⟨ve112_0, rfl, ge112_0⟩ := hMe112
                  have hv112_0 := hcc112 0 _ rfl
                  rw [Nat.add_zero, show ((Kd.slice 3 (Kd.int .i64))).sz = 1 from rfl, Nat.mul_one] at hv112_0
                  replace hv112_0 := Option.some.inj (hv112_0.symm.trans hx112_0)
                  rw [hv112_0] at ge112_0
                  have HL112_0 := am (show Kd.R (Kd.int .i64) 3 _ _ _ _ (rd_L19 t106 x11_1) from ge112_0)
                  clear hv112_0 ge112_0
                  clear hcc112 hce112
                  have HR112_0 := am hi112_0
                  have HC112_0 := am hl112_0
                  clear hi112_0 hl112_0
                  replace p112 := eq_true p112
                  replace q112 := eq_true q112
                  have p113 : 0 ≤ (x11_1 : Int) := of_decide_eq_true (by first | (with_reducible assumption) | assumption)
                  have q113 : x11_1 < (t106.length : Int) := of_decide_eq_true (by first | (with_reducible assumption) | assumption)
                  obtain ⟨ad113, A113_0, c113_0, e113, hx113_0, hl113_0, hi113_0⟩ := at_L19 (Kd.S_reads' HO_8.out).2.2 x11_1 p113 q113
                  obtain rfl : ad112 = ad113 := (by injection e113)
                  obtain ⟨ce113, hce113, hMe113, hcc113⟩ := Kd.S_get HO_8.out [] x11_1 p113 (by first | exact q113 | exact of_decide_eq_true (by first | (with_reducible assumption) | assumption) | (have e_ := (Kd.S_reads' HO_8.out).1; omega))
                  obtain ⟨ve113_0, rfl, ge113_0⟩ := hMe113
                  have hv113_0 := hcc113 0 _ rfl
                  rw [Nat.add_zero, show ((Kd.slice 3 (Kd.int .i64))).sz = 1 from rfl, Nat.mul_one] at hv113_0
                  replace hv113_0 := Option.some.inj (hv113_0.symm.trans hx113_0)
                  rw [hv113_0] at ge113_0
                  have HL113_0 := am (show Kd.R (Kd.int .i64) 3 _ _ _ _ (rd_L19 t106 x11_1) from ge113_0)
                  clear hv113_0 ge113_0
                  clear hcc113 hce113
                  have HR113_0 := am hi113_0
                  have HC113_0 := am hl113_0
                  clear hi113_0 hl113_0
                  replace p113 := eq_true p113
                  replace q113 := eq_true q113
                  have ea_ := Option.some.inj (hx112_0.symm.trans hx113_0)
                  injection ea_ with ea_ en_ ec_
                  subst ea_
                  subst ec_
                  clear en_
                  have p114 : 0 ≤ (x12_2 : Int) := of_decide_eq_true (by first | (with_reducible assumption) | assumption)
                  have q114 : x12_2 < ((rd_L19 t106 x11_1).length : Int) := of_decide_eq_true (by first | (with_reducible assumption) | assumption)
                  obtain ⟨ad114, e114, hx114_0⟩ := Kd.at_int (by repeat (first | (with_reducible exact HR113_0.out) | (with_reducible refine Kd.C_alloc ?_ _) | (with_reducible refine Kd.C_drewN ?_ _) | (with_reducible refine Kd.C_drew ?_) | exact HR113_0.out)) x12_2 p114 q114
                  cases e114
                  replace p114 := eq_true p114
                  replace q114 := eq_true q114
                  have p115 : 0 ≤ (x11_1 : Int) := of_decide_eq_true (by first | (with_reducible assumption) | assumption)
                  have q115 : x11_1 < (t106.length : Int) := of_decide_eq_true (by first | (with_reducible assumption) | assumption)
                  obtain ⟨ad115, A115_0, c115_0, e115, hx115_0, hl115_0, hi115_0⟩ := at_L19 (Kd.S_reads' HO_8.out).2.2 x11_1 p115 q115
                  obtain rfl : ad112 = ad115 := (by injection e115)
                  obtain ⟨ce115, hce115, hMe115, hcc115⟩ := Kd.S_get HO_8.out [] x11_1 p115 (by first | exact q115 | exact of_decide_eq_true (by first | (with_reducible assumption) | assumption) | (have e_ := (Kd.S_reads' HO_8.out).1; omega))
                  obtain ⟨ve115_0, rfl, ge115_0⟩ := hMe115
                  have hv115_0 := hcc115 0 _ rfl
                  rw [Nat.add_zero, show ((Kd.slice 3 (Kd.int .i64))).sz = 1 from rfl, Nat.mul_one] at hv115_0
                  replace hv115_0 := Option.some.inj (hv115_0.symm.trans hx115_0)
                  rw [hv115_0] at ge115_0
                  have HL115_0 := am (show Kd.R (Kd.int .i64) 3 _ _ _ _ (rd_L19 t106 x11_1) from ge115_0)
                  clear hv115_0 ge115_0
                  clear hcc115 hce115
                  have HR115_0 := am hi115_0
                  have HC115_0 := am hl115_0
                  clear hi115_0 hl115_0
                  replace p115 := eq_true p115
                  replace q115 := eq_true q115
                  have ea_ := Option.some.inj (hx112_0.symm.trans hx115_0)
                  injection ea_ with ea_ en_ ec_
                  subst ea_
                  subst ec_
                  clear en_
                  have p116 : 0 ≤ ((ji23) : Int) := of_decide_eq_true (by first | (with_reducible assumption) | assumption)
                  have q116 : (ji23) < ((rd_L19 t106 x11_1).length : Int) := of_decide_eq_true (by first | (with_reducible assumption) | assumption)
                  obtain ⟨ad116, e116, hx116_0⟩ := Kd.at_int (by repeat (first | (with_reducible exact HR115_0.out) | (with_reducible refine Kd.C_alloc ?_ _) | (with_reducible refine Kd.C_drewN ?_ _) | (with_reducible refine Kd.C_drew ?_) | exact HR115_0.out)) (ji23) p116 q116
                  obtain rfl : ad114 = ad116 := (by injection e116)
                  replace p116 := eq_true p116
                  replace q116 := eq_true q116
                  go_wp2
                  repeat (go_quiet (fail); try go_wp2)
                  go_ret
                  exact ⟨by first | rfl | (simp [errW_none, errW_some] <;> rfl) | (simp only [← hji23]; first | rfl | (simp [errW_none, errW_some] <;> rfl)) | (simp [*, errW_none, errW_some] <;> rfl), by repeat (first | (with_reducible first | exact HB.out | apply lA | apply lN | apply lD) | exact HB.out)⟩
                 ·rw [if_neg c26] at H
                  have c26b0 : decide ((rd (rd_L19 t106 x11_1) x12_2) ≤ (rd (rd_L19 t106 x11_1) (ji23))) = false := decide_eq_false c26
                  clear c26
                  by_cases c27 : 0 ≤ (rd (rd_L19 t106 x11_1) x12_2)
                  ·rw [if_pos c27] at H
                   have c27b0 : decide (0 ≤ (rd (rd_L19 t106 x11_1) x12_2)) = true := decide_eq_true c27
                   clear c27
                   by_cases c28 : (rd (rd_L19 t106 x11_1) x12_2) < (x9_2.length : Int)
                   ·rw [if_pos c28] at H
                    have c28b0 : decide ((rd (rd_L19 t106 x11_1) x12_2) < (x9_2.length : Int)) = true := decide_eq_true c28
                    clear c28
                    obtain ⟨y117, hy117⟩ : ∃ y_ : List Int, y_ = (x9_2.set ((rd (rd_L19 t106 x11_1) x12_2) : Int).toNat x11_1) := ⟨_, rfl⟩
                    replace H : (lambrequinlaw10_GraphParts.l1 k2 t101 t102 t103 t106 y117 (wrap64 (x10_2 + 1)) x11_1 (wrap64 (x12_2 + 1))) = some r := by first | (rw [hy117]; with_reducible exact H) | (have H2_ := (Option.bind_some _ _).symm.trans H; rw [hy117]; with_reducible exact H2_) | (have H2_ := (Option.bind_some _ _).symm.trans H; with_reducible exact H2_) | with_reducible exact H | (rw [hy117]; exact H) | exact H
                    have Ny117 := am hy117
                    clear hy117
                    have H' := am H
                    clear H
                    have p112 : 0 ≤ (x11_1 : Int) := of_decide_eq_true (by first | (with_reducible assumption) | assumption)
                    have q112 : x11_1 < (t106.length : Int) := of_decide_eq_true (by first | (with_reducible assumption) | assumption)
                    obtain ⟨ad112, A112_0, c112_0, e112, hx112_0, hl112_0, hi112_0⟩ := at_L19 (Kd.S_reads' HO_8.out).2.2 x11_1 p112 q112
                    cases e112
                    obtain ⟨ce112, hce112, hMe112, hcc112⟩ := Kd.S_get HO_8.out [] x11_1 p112 (by first | exact q112 | exact of_decide_eq_true (by first | (with_reducible assumption) | assumption) | (have e_ := (Kd.S_reads' HO_8.out).1; omega))
                    obtain ⟨ve112_0, rfl, ge112_0⟩ := hMe112
                    have hv112_0 := hcc112 0 _ rfl
                    rw [Nat.add_zero, show ((Kd.slice 3 (Kd.int .i64))).sz = 1 from rfl, Nat.mul_one] at hv112_0
                    replace hv112_0 := Option.some.inj (hv112_0.symm.trans hx112_0)
                    rw [hv112_0] at ge112_0
                    have HL112_0 := am (show Kd.R (Kd.int .i64) 3 _ _ _ _ (rd_L19 t106 x11_1) from ge112_0)
                    clear hv112_0 ge112_0
                    clear hcc112 hce112
                    have HR112_0 := am hi112_0
                    have HC112_0 := am hl112_0
                    clear hi112_0 hl112_0
                    replace p112 := eq_true p112
                    replace q112 := eq_true q112
                    have p113 : 0 ≤ (x11_1 : Int) := of_decide_eq_true (by first | (with_reducible assumption) | assumption)
                    have q113 : x11_1 < (t106.length : Int) := of_decide_eq_true (by first | (with_reducible assumption) | assumption)
                    obtain ⟨ad113, A113_0, c113_0, e113, hx113_0, hl113_0, hi113_0⟩ := at_L19 (Kd.S_reads' HO_8.out).2.2 x11_1 p113 q113
                    obtain rfl : ad112 = ad113 := (by injection e113)
                    obtain ⟨ce113, hce113, hMe113, hcc113⟩ := Kd.S_get HO_8.out [] x11_1 p113 (by first | exact q113 | exact of_decide_eq_true (by first | (with_reducible assumption) | assumption) | (have e_ := (Kd.S_reads' HO_8.out).1; omega))
                    obtain ⟨ve113_0, rfl, ge113_0⟩ := hMe113
                    have hv113_0 := hcc113 0 _ rfl
                    rw [Nat.add_zero, show ((Kd.slice 3 (Kd.int .i64))).sz = 1 from rfl, Nat.mul_one] at hv113_0
                    replace hv113_0 := Option.some.inj (hv113_0.symm.trans hx113_0)
                    rw [hv113_0] at ge113_0
                    have HL113_0 := am (show Kd.R (Kd.int .i64) 3 _ _ _ _ (rd_L19 t106 x11_1) from ge113_0)
                    clear hv113_0 ge113_0
                    clear hcc113 hce113
                    have HR113_0 := am hi113_0
                    have HC113_0 := am hl113_0
                    clear hi113_0 hl113_0
                    replace p113 := eq_true p113
                    replace q113 := eq_true q113
                    have ea_ := Option.some.inj (hx112_0.symm.trans hx113_0)
                    injection ea_ with ea_ en_ ec_
                    subst ea_
                    subst ec_
                    clear en_
                    have p114 : 0 ≤ (x12_2 : Int) := of_decide_eq_true (by first | (with_reducible assumption) | assumption)
                    have q114 : x12_2 < ((rd_L19 t106 x11_1).length : Int) := of_decide_eq_true (by first | (with_reducible assumption) | assumption)
                    obtain ⟨ad114, e114, hx114_0⟩ := Kd.at_int (by repeat (first | (with_reducible exact HR113_0.out) | (with_reducible refine Kd.C_alloc ?_ _) | (with_reducible refine Kd.C_drewN ?_ _) | (with_reducible refine Kd.C_drew ?_) | exact HR113_0.out)) x12_2 p114 q114
                    cases e114
                    replace p114 := eq_true p114
                    replace q114 := eq_true q114
                    have p115 : 0 ≤ (x11_1 : Int) := of_decide_eq_true (by first | (with_reducible assumption) | assumption)
                    have q115 : x11_1 < (t106.length : Int) := of_decide_eq_true (by first | (with_reducible assumption) | assumption)
                    obtain ⟨ad115, A115_0, c115_0, e115, hx115_0, hl115_0, hi115_0⟩ := at_L19 (Kd.S_reads' HO_8.out).2.2 x11_1 p115 q115
                    obtain rfl : ad112 = ad115 := (by injection e115)
                    obtain ⟨ce115, hce115, hMe115, hcc115⟩ := Kd.S_get HO_8.out [] x11_1 p115 (by first | exact q115 | exact of_decide_eq_true (by first | (with_reducible assumption) | assumption) | (have e_ := (Kd.S_reads' HO_8.out).1; omega))
                    obtain ⟨ve115_0, rfl, ge115_0⟩ := hMe115
                    have hv115_0 := hcc115 0 _ rfl
                    rw [Nat.add_zero, show ((Kd.slice 3 (Kd.int .i64))).sz = 1 from rfl, Nat.mul_one] at hv115_0
                    replace hv115_0 := Option.some.inj (hv115_0.symm.trans hx115_0)
                    rw [hv115_0] at ge115_0
                    have HL115_0 := am (show Kd.R (Kd.int .i64) 3 _ _ _ _ (rd_L19 t106 x11_1) from ge115_0)
                    clear hv115_0 ge115_0
                    clear hcc115 hce115
                    have HR115_0 := am hi115_0
                    have HC115_0 := am hl115_0
                    clear hi115_0 hl115_0
                    replace p115 := eq_true p115
                    replace q115 := eq_true q115
                    have ea_ := Option.some.inj (hx112_0.symm.trans hx115_0)
                    injection ea_ with ea_ en_ ec_
                    subst ea_
                    subst ec_
                    clear en_
                    have p116 : 0 ≤ ((ji23) : Int) := of_decide_eq_true (by first | (with_reducible assumption) | assumption)
                    have q116 : (ji23) < ((rd_L19 t106 x11_1).length : Int) := of_decide_eq_true (by first | (with_reducible assumption) | assumption)
                    obtain ⟨ad116, e116, hx116_0⟩ := Kd.at_int (by repeat (first | (with_reducible exact HR115_0.out) | (with_reducible refine Kd.C_alloc ?_ _) | (with_reducible refine Kd.C_drewN ?_ _) | (with_reducible refine Kd.C_drew ?_) | exact HR115_0.out)) (ji23) p116 q116
                    obtain rfl : ad114 = ad116 := (by injection e116)
                    replace p116 := eq_true p116
                    replace q116 := eq_true q116
                    have p29 : 0 ≤ ((rd (rd_L19 t106 x11_1) x12_2) : Int) := of_decide_eq_true (by first | (with_reducible assumption) | assumption)
                    have q29 : ((rd (rd_L19 t106 x11_1) x12_2) : Int) < ((x9_2.length : Int) : Int) := of_decide_eq_true (by first | (with_reducible assumption) | assumption)
                    obtain ⟨go29, co29, eo29, gb29, gl29, cl29, HG29⟩ := Kd.R_form HO_9.out (by omega)
                    (first | cases eo29 | (injection eo29 with ea_ en_ ec_; (first | subst ea_ | (injection ea_ with ea_; subst ea_)); subst ec_; clear en_))
                    have GB29 := am gb29
                    have GG29 := am HG29
                    clear gb29 gl29 HG29
                    obtain ⟨hx29_0, hf29_0⟩ := Kd.R_celln 0 HO_9.out ((rd (rd_L19 t106 x11_1) x12_2) : Int) p29 q29
                    replace p29 := eq_true p29
                    replace q29 := eq_true q29
                    have HP30 := Kd.R_putg HO_9.out ((rd (rd_L19 t106 x11_1) x12_2) : Int) x11_1
                    go_wp2_with (first | ((with_reducible refine gate_store (t := 3) (p := 78) rfl ?_); (try (rw [drewN_self wr]; generalize hq_ : World.drewN wr _ = wr; replace HO_7 := am (Kd.R_at hq_ HO_7.out); replace HO_8 := am (Kd.S_at hq_ HO_8.out); replace HO_9 := am (Kd.R_at hq_ HO_9.out); replace HL112_0 := am (Kd.R_at hq_ HL112_0.out); replace HL113_0 := am (Kd.R_at hq_ HL113_0.out); replace HL115_0 := am (Kd.R_at hq_ HL115_0.out); replace HB := am (below_at hq_ HB.out); clear hq_; (try (have HP30 := Kd.R_putg HO_9.out ((rd (rd_L19 t106 x11_1) x12_2) : Int) x11_1)))); refine store_event (t := 3) (p := 78) (v := ?vo_w31) (w1 := (wr.setCell ⟨go29, ((rd (rd_L19 t106 x11_1) x12_2) : Int).toNat, none⟩ (.int .i64 x11_1))) ?hg ?ho ?hn ?hr ?_; (case ho => rfl); (case hg => rfl); (case hn => rfl); (case hr => first | (go_simp; done) | (go_simp; rfl)); intro w31 hw; have hg : wr.grownBy w31 (some go29) := (by rw [hw]; exact HP30.2); have hp_ : Kd.R (Kd.int .i64) 3 w31 w.heap.size (fun _ => True) (.slice (some ⟨go29, 0, none⟩) x9_2.length co29) y117 := (by rw [hw, Ny117.out]; exact HP30.1); clear HP30; replace HO_7 := am (Kd.R_over' (v := (.slice (some ⟨go29, 0, none⟩) x9_2.length co29)) (by (with_reducible repeat (first | apply Ra | apply Rn | apply Rd)); exact HO_7.out) (Kd.R_typed HO_9.out) (by decide) hg); replace HO_8 := am (Kd.S_after (v := (.slice (some ⟨go29, 0, none⟩) x9_2.length co29)) (v1 := (.slice (some ⟨go29, 0, none⟩) x9_2.length co29)) (ok := (fun _ => True)) (by (with_reducible repeat (first | apply Kd.S_alloc | apply Kd.S_drewN | apply Kd.S_drew)); exact Kd.S_mono HO_8.out (fun _ hk => ⟨trivial, hk⟩)) hg (.inl rfl)); replace HO_9 := am (hp_); replace HL112_0 := am (Kd.R_after (v := (.slice (some ⟨go29, 0, none⟩) x9_2.length co29)) (v1 := (.slice (some ⟨go29, 0, none⟩) x9_2.length co29)) (ok := (fun k_ => some k_ ≠ (.slice (some ad112) t106.length co15 : Value).ownBlock)) (by (with_reducible repeat (first | apply Ra | apply Rn | apply Rd)); exact Kd.R_mono HL112_0.out (fun _ hk => ⟨hk.2, hk.1⟩)) hg (.inl rfl)); replace HL113_0 := am (Kd.R_after (v := (.slice (some ⟨go29, 0, none⟩) x9_2.length co29)) (v1 := (.slice (some ⟨go29, 0, none⟩) x9_2.length co29)) (ok := (fun k_ => some k_ ≠ (.slice (some ad112) t106.length co15 : Value).ownBlock)) (by (with_reducible repeat (first | apply Ra | apply Rn | apply Rd)); exact Kd.R_mono HL113_0.out (fun _ hk => ⟨hk.2, hk.1⟩)) hg (.inl rfl)); replace HL115_0 := am (Kd.R_after (v := (.slice (some ⟨go29, 0, none⟩) x9_2.length co29)) (v1 := (.slice (some ⟨go29, 0, none⟩) x9_2.length co29)) (ok := (fun k_ => some k_ ≠ (.slice (some ad112) t106.length co15 : Value).ownBlock)) (by (with_reducible repeat (first | apply Ra | apply Rn | apply Rd)); exact Kd.R_mono HL115_0.out (fun _ hk => ⟨hk.2, hk.1⟩)) hg (.inl rfl)); replace HB := am ((by rw [hw]; exact below_set (HB.out) GB29.out : Below w.heap.size w w31)); clear hg hw hp_))
                    repeat (go_quiet (first | ((with_reducible refine gate_store (t := 3) (p := 78) rfl ?_); (try (rw [drewN_self wr]; generalize hq_ : World.drewN wr _ = wr; replace HO_7 := am (Kd.R_at hq_ HO_7.out); replace HO_8 := am (Kd.S_at hq_ HO_8.out); replace HO_9 := am (Kd.R_at hq_ HO_9.out); replace HL112_0 := am (Kd.R_at hq_ HL112_0.out); replace HL113_0 := am (Kd.R_at hq_ HL113_0.out); replace HL115_0 := am (Kd.R_at hq_ HL115_0.out); replace HB := am (below_at hq_ HB.out); clear hq_; (try (have HP30 := Kd.R_putg HO_9.out ((rd (rd_L19 t106 x11_1) x12_2) : Int) x11_1)))); refine store_event (t := 3) (p := 78) (v := ?vo_w31) (w1 := (wr.setCell ⟨go29, ((rd (rd_L19 t106 x11_1) x12_2) : Int).toNat, none⟩ (.int .i64 x11_1))) ?hg ?ho ?hn ?hr ?_; (case ho => rfl); (case hg => rfl); (case hn => rfl); (case hr => first | (go_simp; done) | (go_simp; rfl)); intro w31 hw; have hg : wr.grownBy w31 (some go29) := (by rw [hw]; exact HP30.2); have hp_ : Kd.R (Kd.int .i64) 3 w31 w.heap.size (fun _ => True) (.slice (some ⟨go29, 0, none⟩) x9_2.length co29) y117 := (by rw [hw, Ny117.out]; exact HP30.1); clear HP30; replace HO_7 := am (Kd.R_over' (v := (.slice (some ⟨go29, 0, none⟩) x9_2.length co29)) (by (with_reducible repeat (first | apply Ra | apply Rn | apply Rd)); exact HO_7.out) (Kd.R_typed HO_9.out) (by decide) hg); replace HO_8 := am (Kd.S_after (v := (.slice (some ⟨go29, 0, none⟩) x9_2.length co29)) (v1 := (.slice (some ⟨go29, 0, none⟩) x9_2.length co29)) (ok := (fun _ => True)) (by (with_reducible repeat (first | apply Kd.S_alloc | apply Kd.S_drewN | apply Kd.S_drew)); exact Kd.S_mono HO_8.out (fun _ hk => ⟨trivial, hk⟩)) hg (.inl rfl)); replace HO_9 := am (hp_); replace HL112_0 := am (Kd.R_after (v := (.slice (some ⟨go29, 0, none⟩) x9_2.length co29)) (v1 := (.slice (some ⟨go29, 0, none⟩) x9_2.length co29)) (ok := (fun k_ => some k_ ≠ (.slice (some ad112) t106.length co15 : Value).ownBlock)) (by (with_reducible repeat (first | apply Ra | apply Rn | apply Rd)); exact Kd.R_mono HL112_0.out (fun _ hk => ⟨hk.2, hk.1⟩)) hg (.inl rfl)); replace HL113_0 := am (Kd.R_after (v := (.slice (some ⟨go29, 0, none⟩) x9_2.length co29)) (v1 := (.slice (some ⟨go29, 0, none⟩) x9_2.length co29)) (ok := (fun k_ => some k_ ≠ (.slice (some ad112) t106.length co15 : Value).ownBlock)) (by (with_reducible repeat (first | apply Ra | apply Rn | apply Rd)); exact Kd.R_mono HL113_0.out (fun _ hk => ⟨hk.2, hk.1⟩)) hg (.inl rfl)); replace HL115_0 := am (Kd.R_after (v := (.slice (some ⟨go29, 0, none⟩) x9_2.length co29)) (v1 := (.slice (some ⟨go29, 0, none⟩) x9_2.length co29)) (ok := (fun k_ => some k_ ≠ (.slice (some ad112) t106.length co15 : Value).ownBlock)) (by (with_reducible repeat (first | apply Ra | apply Rn | apply Rd)); exact Kd.R_mono HL115_0.out (fun _ hk => ⟨hk.2, hk.1⟩)) hg (.inl rfl)); replace HB := am ((by rw [hw]; exact below_set (HB.out) GB29.out : Below w.heap.size w w31)); clear hg hw hp_)); try go_wp2_with (first | ((with_reducible refine gate_store (t := 3) (p := 78) rfl ?_); (try (rw [drewN_self wr]; generalize hq_ : World.drewN wr _ = wr; replace HO_7 := am (Kd.R_at hq_ HO_7.out); replace HO_8 := am (Kd.S_at hq_ HO_8.out); replace HO_9 := am (Kd.R_at hq_ HO_9.out); replace HL112_0 := am (Kd.R_at hq_ HL112_0.out); replace HL113_0 := am (Kd.R_at hq_ HL113_0.out); replace HL115_0 := am (Kd.R_at hq_ HL115_0.out); replace HB := am (below_at hq_ HB.out); clear hq_; (try (have HP30 := Kd.R_putg HO_9.out ((rd (rd_L19 t106 x11_1) x12_2) : Int) x11_1)))); refine store_event (t := 3) (p := 78) (v := ?vo_w31) (w1 := (wr.setCell ⟨go29, ((rd (rd_L19 t106 x11_1) x12_2) : Int).toNat, none⟩ (.int .i64 x11_1))) ?hg ?ho ?hn ?hr ?_; (case ho => rfl); (case hg => rfl); (case hn => rfl); (case hr => first | (go_simp; done) | (go_simp; rfl)); intro w31 hw; have hg : wr.grownBy w31 (some go29) := (by rw [hw]; exact HP30.2); have hp_ : Kd.R (Kd.int .i64) 3 w31 w.heap.size (fun _ => True) (.slice (some ⟨go29, 0, none⟩) x9_2.length co29) y117 := (by rw [hw, Ny117.out]; exact HP30.1); clear HP30; replace HO_7 := am (Kd.R_over' (v := (.slice (some ⟨go29, 0, none⟩) x9_2.length co29)) (by (with_reducible repeat (first | apply Ra | apply Rn | apply Rd)); exact HO_7.out) (Kd.R_typed HO_9.out) (by decide) hg); replace HO_8 := am (Kd.S_after (v := (.slice (some ⟨go29, 0, none⟩) x9_2.length co29)) (v1 := (.slice (some ⟨go29, 0, none⟩) x9_2.length co29)) (ok := (fun _ => True)) (by (with_reducible repeat (first | apply Kd.S_alloc | apply Kd.S_drewN | apply Kd.S_drew)); exact Kd.S_mono HO_8.out (fun _ hk => ⟨trivial, hk⟩)) hg (.inl rfl)); replace HO_9 := am (hp_); replace HL112_0 := am (Kd.R_after (v := (.slice (some ⟨go29, 0, none⟩) x9_2.length co29)) (v1 := (.slice (some ⟨go29, 0, none⟩) x9_2.length co29)) (ok := (fun k_ => some k_ ≠ (.slice (some ad112) t106.length co15 : Value).ownBlock)) (by (with_reducible repeat (first | apply Ra | apply Rn | apply Rd)); exact Kd.R_mono HL112_0.out (fun _ hk => ⟨hk.2, hk.1⟩)) hg (.inl rfl)); replace HL113_0 := am (Kd.R_after (v := (.slice (some ⟨go29, 0, none⟩) x9_2.length co29)) (v1 := (.slice (some ⟨go29, 0, none⟩) x9_2.length co29)) (ok := (fun k_ => some k_ ≠ (.slice (some ad112) t106.length co15 : Value).ownBlock)) (by (with_reducible repeat (first | apply Ra | apply Rn | apply Rd)); exact Kd.R_mono HL113_0.out (fun _ hk => ⟨hk.2, hk.1⟩)) hg (.inl rfl)); replace HL115_0 := am (Kd.R_after (v := (.slice (some ⟨go29, 0, none⟩) x9_2.length co29)) (v1 := (.slice (some ⟨go29, 0, none⟩) x9_2.length co29)) (ok := (fun k_ => some k_ ≠ (.slice (some ad112) t106.length co15 : Value).ownBlock)) (by (with_reducible repeat (first | apply Ra | apply Rn | apply Rd)); exact Kd.R_mono HL115_0.out (fun _ hk => ⟨hk.2, hk.1⟩)) hg (.inl rfl)); replace HB := am ((by rw [hw]; exact below_set (HB.out) GB29.out : Below w.heap.size w w31)); clear hg hw hp_)))
                    go_roundg k2
                    case measure => have := HK1.out; have := HK2.out; omega
                    case rel => exact ⟨(y117), (wrap64 (x10_2 + 1)), (wrap64 (x12_2 + 1)), (by first | rfl | (simp; done) | (simp [*]; done)), (by first | rfl | (simp; done) | (simp [*]; done)), H', ⟨by have := HK1.out; have := HK2.out; omega⟩, ⟨by (with_reducible repeat (first | apply Ra | apply Rn | apply Rd)); exact HO_7.out⟩, ⟨by (with_reducible repeat (first | apply Kd.S_alloc | apply Kd.S_drewN | apply Kd.S_drew)); exact Kd.S_mono HO_8.out (fun _ hk => hk.2)⟩, ⟨by (with_reducible repeat (first | apply Ra | apply Rn | apply Rd)); exact HO_9.out⟩, ⟨by repeat (first | (with_reducible first | exact HB.out | apply lA | apply lN | apply lD) | exact HB.out)⟩⟩
                   ·rw [if_neg c28] at H
                    exact absurd H (by simp)
                  ·rw [if_neg c27] at H
                   exact absurd H (by simp)
                ·rw [if_neg c25] at H
                 exact absurd H (by simp)
               ·rw [if_neg c24] at H
                exact absurd H (by simp)
              ·rw [if_neg c22] at H
               have c22b0 : decide (0 < x12_2) = false := decide_eq_false c22
               clear c22
               by_cases c32 : 0 ≤ (rd (rd_L19 t106 x11_1) x12_2)
               ·rw [if_pos c32] at H
                have c32b0 : decide (0 ≤ (rd (rd_L19 t106 x11_1) x12_2)) = true := decide_eq_true c32
                clear c32
                by_cases c33 : (rd (rd_L19 t106 x11_1) x12_2) < (x9_2.length : Int)
                ·rw [if_pos c33] at H
                 have c33b0 : decide ((rd (rd_L19 t106 x11_1) x12_2) < (x9_2.length : Int)) = true := decide_eq_true c33
                 clear c33
                 obtain ⟨y118, hy118⟩ : ∃ y_ : List Int, y_ = (x9_2.set ((rd (rd_L19 t106 x11_1) x12_2) : Int).toNat x11_1) := ⟨_, rfl⟩
                 replace H : (lambrequinlaw10_GraphParts.l1 k2 t101 t102 t103 t106 y118 (wrap64 (x10_2 + 1)) x11_1 (wrap64 (x12_2 + 1))) = some r := by first | (rw [hy118]; with_reducible exact H) | (have H2_ := (Option.bind_some _ _).symm.trans H; rw [hy118]; with_reducible exact H2_) | (have H2_ := (Option.bind_some _ _).symm.trans H; with_reducible exact H2_) | with_reducible exact H | (rw [hy118]; exact H) | exact H
                 have Ny118 := am hy118
                 clear hy118
                 have H' := am H
                 clear H
                 have p112 : 0 ≤ (x11_1 : Int) := of_decide_eq_true (by first | (with_reducible assumption) | assumption)
                 have q112 : x11_1 < (t106.length : Int) := of_decide_eq_true (by first | (with_reducible assumption) | assumption)
                 obtain ⟨ad112, A112_0, c112_0, e112, hx112_0, hl112_0, hi112_0⟩ := at_L19 (Kd.S_reads' HO_8.out).2.2 x11_1 p112 q112
                 cases e112
                 obtain ⟨ce112, hce112, hMe112, hcc112⟩ := Kd.S_get HO_8.out [] x11_1 p112 (by first | exact q112 | exact of_decide_eq_true (by first | (with_reducible assumption) | assumption) | (have e_ := (Kd.S_reads' HO_8.out).1; omega))
                 obtain ⟨ve112_0, rfl, ge112_0⟩ := hMe112
                 have hv112_0 := hcc112 0 _ rfl
                 rw [Nat.add_zero, show ((Kd.slice 3 (Kd.int .i64))).sz = 1 from rfl, Nat.mul_one] at hv112_0
                 replace hv112_0 := Option.some.inj (hv112_0.symm.trans hx112_0)
                 rw [hv112_0] at ge112_0
                 have HL112_0 := am (show Kd.R (Kd.int .i64) 3 _ _ _ _ (rd_L19 t106 x11_1) from ge112_0)
                 clear hv112_0 ge112_0
                 clear hcc112 hce112
                 have HR112_0 := am hi112_0
                 have HC112_0 := am hl112_0
                 clear hi112_0 hl112_0
                 replace p112 := eq_true p112
                 replace q112 := eq_true q112
                 have p113 : 0 ≤ (x11_1 : Int) := of_decide_eq_true (by first | (with_reducible assumption) | assumption)
                 have q113 : x11_1 < (t106.length : Int) := of_decide_eq_true (by first | (with_reducible assumption) | assumption)
                 obtain ⟨ad113, A113_0, c113_0, e113, hx113_0, hl113_0, hi113_0⟩ := at_L19 (Kd.S_reads' HO_8.out).2.2 x11_1 p113 q113
                 obtain rfl : ad112 = ad113 := (by injection e113)
                 obtain ⟨ce113, hce113, hMe113, hcc113⟩ := Kd.S_get HO_8.out [] x11_1 p113 (by first | exact q113 | exact of_decide_eq_true (by first | (with_reducible assumption) | assumption) | (have e_ := (Kd.S_reads' HO_8.out).1; omega))
                 obtain ⟨ve113_0, rfl, ge113_0⟩ := hMe113
                 have hv113_0 := hcc113 0 _ rfl
                 rw [Nat.add_zero, show ((Kd.slice 3 (Kd.int .i64))).sz = 1 from rfl, Nat.mul_one] at hv113_0
                 replace hv113_0 := Option.some.inj (hv113_0.symm.trans hx113_0)
                 rw [hv113_0] at ge113_0
                 have HL113_0 := am (show Kd.R (Kd.int .i64) 3 _ _ _ _ (rd_L19 t106 x11_1) from ge113_0)
                 clear hv113_0 ge113_0
                 clear hcc113 hce113
                 have HR113_0 := am hi113_0
                 have HC113_0 := am hl113_0
                 clear hi113_0 hl113_0
                 replace p113 := eq_true p113
                 replace q113 := eq_true q113
                 have ea_ := Option.some.inj (hx112_0.symm.trans hx113_0)
                 injection ea_ with ea_ en_ ec_
                 subst ea_
                 subst ec_
                 clear en_
                 have p114 : 0 ≤ (x12_2 : Int) := of_decide_eq_true (by first | (with_reducible assumption) | assumption)
                 have q114 : x12_2 < ((rd_L19 t106 x11_1).length : Int) := of_decide_eq_true (by first | (with_reducible assumption) | assumption)
                 obtain ⟨ad114, e114, hx114_0⟩ := Kd.at_int (by repeat (first | (with_reducible exact HR113_0.out) | (with_reducible refine Kd.C_alloc ?_ _) | (with_reducible refine Kd.C_drewN ?_ _) | (with_reducible refine Kd.C_drew ?_) | exact HR113_0.out)) x12_2 p114 q114
                 cases e114
                 replace p114 := eq_true p114
                 replace q114 := eq_true q114
                 have p34 : 0 ≤ ((rd (rd_L19 t106 x11_1) x12_2) : Int) := of_decide_eq_true (by first | (with_reducible assumption) | assumption)
                 have q34 : ((rd (rd_L19 t106 x11_1) x12_2) : Int) < ((x9_2.length : Int) : Int) := of_decide_eq_true (by first | (with_reducible assumption) | assumption)
                 obtain ⟨go34, co34, eo34, gb34, gl34, cl34, HG34⟩ := Kd.R_form HO_9.out (by omega)
                 (first | cases eo34 | (injection eo34 with ea_ en_ ec_; (first | subst ea_ | (injection ea_ with ea_; subst ea_)); subst ec_; clear en_))
                 have GB34 := am gb34
                 have GG34 := am HG34
                 clear gb34 gl34 HG34
                 obtain ⟨hx34_0, hf34_0⟩ := Kd.R_celln 0 HO_9.out ((rd (rd_L19 t106 x11_1) x12_2) : Int) p34 q34
                 replace p34 := eq_true p34
                 replace q34 := eq_true q34
                 have HP35 := Kd.R_putg HO_9.out ((rd (rd_L19 t106 x11_1) x12_2) : Int) x11_1
                 go_wp2_with (first | ((with_reducible refine gate_store (t := 3) (p := 78) rfl ?_); (try (rw [drewN_self wr]; generalize hq_ : World.drewN wr _ = wr; replace HO_7 := am (Kd.R_at hq_ HO_7.out); replace HO_8 := am (Kd.S_at hq_ HO_8.out); replace HO_9 := am (Kd.R_at hq_ HO_9.out); replace HL112_0 := am (Kd.R_at hq_ HL112_0.out); replace HL113_0 := am (Kd.R_at hq_ HL113_0.out); replace HB := am (below_at hq_ HB.out); clear hq_; (try (have HP35 := Kd.R_putg HO_9.out ((rd (rd_L19 t106 x11_1) x12_2) : Int) x11_1)))); refine store_event (t := 3) (p := 78) (v := ?vo_w36) (w1 := (wr.setCell ⟨go34, ((rd (rd_L19 t106 x11_1) x12_2) : Int).toNat, none⟩ (.int .i64 x11_1))) ?hg ?ho ?hn ?hr ?_; (case ho => rfl); (case hg => rfl); (case hn => rfl); (case hr => first | (go_simp; done) | (go_simp; rfl)); intro w36 hw; have hg : wr.grownBy w36 (some go34) := (by rw [hw]; exact HP35.2); have hp_ : Kd.R (Kd.int .i64) 3 w36 w.heap.size (fun _ => True) (.slice (some ⟨go34, 0, none⟩) x9_2.length co34) y118 := (by rw [hw, Ny118.out]; exact HP35.1); clear HP35; replace HO_7 := am (Kd.R_over' (v := (.slice (some ⟨go34, 0, none⟩) x9_2.length co34)) (by (with_reducible repeat (first | apply Ra | apply Rn | apply Rd)); exact HO_7.out) (Kd.R_typed HO_9.out) (by decide) hg); replace HO_8 := am (Kd.S_after (v := (.slice (some ⟨go34, 0, none⟩) x9_2.length co34)) (v1 := (.slice (some ⟨go34, 0, none⟩) x9_2.length co34)) (ok := (fun _ => True)) (by (with_reducible repeat (first | apply Kd.S_alloc | apply Kd.S_drewN | apply Kd.S_drew)); exact Kd.S_mono HO_8.out (fun _ hk => ⟨trivial, hk⟩)) hg (.inl rfl)); replace HO_9 := am (hp_); replace HL112_0 := am (Kd.R_after (v := (.slice (some ⟨go34, 0, none⟩) x9_2.length co34)) (v1 := (.slice (some ⟨go34, 0, none⟩) x9_2.length co34)) (ok := (fun k_ => some k_ ≠ (.slice (some ad112) t106.length co15 : Value).ownBlock)) (by (with_reducible repeat (first | apply Ra | apply Rn | apply Rd)); exact Kd.R_mono HL112_0.out (fun _ hk => ⟨hk.2, hk.1⟩)) hg (.inl rfl)); replace HL113_0 := am (Kd.R_after (v := (.slice (some ⟨go34, 0, none⟩) x9_2.length co34)) (v1 := (.slice (some ⟨go34, 0, none⟩) x9_2.length co34)) (ok := (fun k_ => some k_ ≠ (.slice (some ad112) t106.length co15 : Value).ownBlock)) (by (with_reducible repeat (first | apply Ra | apply Rn | apply Rd)); exact Kd.R_mono HL113_0.out (fun _ hk => ⟨hk.2, hk.1⟩)) hg (.inl rfl)); replace HB := am ((by rw [hw]; exact below_set (HB.out) GB34.out : Below w.heap.size w w36)); clear hg hw hp_))
                 repeat (go_quiet (first | ((with_reducible refine gate_store (t := 3) (p := 78) rfl ?_); (try (rw [drewN_self wr]; generalize hq_ : World.drewN wr _ = wr; replace HO_7 := am (Kd.R_at hq_ HO_7.out); replace HO_8 := am (Kd.S_at hq_ HO_8.out); replace HO_9 := am (Kd.R_at hq_ HO_9.out); replace HL112_0 := am (Kd.R_at hq_ HL112_0.out); replace HL113_0 := am (Kd.R_at hq_ HL113_0.out); replace HB := am (below_at hq_ HB.out); clear hq_; (try (have HP35 := Kd.R_putg HO_9.out ((rd (rd_L19 t106 x11_1) x12_2) : Int) x11_1)))); refine store_event (t := 3) (p := 78) (v := ?vo_w36) (w1 := (wr.setCell ⟨go34, ((rd (rd_L19 t106 x11_1) x12_2) : Int).toNat, none⟩ (.int .i64 x11_1))) ?hg ?ho ?hn ?hr ?_; (case ho => rfl); (case hg => rfl); (case hn => rfl); (case hr => first | (go_simp; done) | (go_simp; rfl)); intro w36 hw; have hg : wr.grownBy w36 (some go34) := (by rw [hw]; exact HP35.2); have hp_ : Kd.R (Kd.int .i64) 3 w36 w.heap.size (fun _ => True) (.slice (some ⟨go34, 0, none⟩) x9_2.length co34) y118 := (by rw [hw, Ny118.out]; exact HP35.1); clear HP35; replace HO_7 := am (Kd.R_over' (v := (.slice (some ⟨go34, 0, none⟩) x9_2.length co34)) (by (with_reducible repeat (first | apply Ra | apply Rn | apply Rd)); exact HO_7.out) (Kd.R_typed HO_9.out) (by decide) hg); replace HO_8 := am (Kd.S_after (v := (.slice (some ⟨go34, 0, none⟩) x9_2.length co34)) (v1 := (.slice (some ⟨go34, 0, none⟩) x9_2.length co34)) (ok := (fun _ => True)) (by (with_reducible repeat (first | apply Kd.S_alloc | apply Kd.S_drewN | apply Kd.S_drew)); exact Kd.S_mono HO_8.out (fun _ hk => ⟨trivial, hk⟩)) hg (.inl rfl)); replace HO_9 := am (hp_); replace HL112_0 := am (Kd.R_after (v := (.slice (some ⟨go34, 0, none⟩) x9_2.length co34)) (v1 := (.slice (some ⟨go34, 0, none⟩) x9_2.length co34)) (ok := (fun k_ => some k_ ≠ (.slice (some ad112) t106.length co15 : Value).ownBlock)) (by (with_reducible repeat (first | apply Ra | apply Rn | apply Rd)); exact Kd.R_mono HL112_0.out (fun _ hk => ⟨hk.2, hk.1⟩)) hg (.inl rfl)); replace HL113_0 := am (Kd.R_after (v := (.slice (some ⟨go34, 0, none⟩) x9_2.length co34)) (v1 := (.slice (some ⟨go34, 0, none⟩) x9_2.length co34)) (ok := (fun k_ => some k_ ≠ (.slice (some ad112) t106.length co15 : Value).ownBlock)) (by (with_reducible repeat (first | apply Ra | apply Rn | apply Rd)); exact Kd.R_mono HL113_0.out (fun _ hk => ⟨hk.2, hk.1⟩)) hg (.inl rfl)); replace HB := am ((by rw [hw]; exact below_set (HB.out) GB34.out : Below w.heap.size w w36)); clear hg hw hp_)); try go_wp2_with (first | ((with_reducible refine gate_store (t := 3) (p := 78) rfl ?_); (try (rw [drewN_self wr]; generalize hq_ : World.drewN wr _ = wr; replace HO_7 := am (Kd.R_at hq_ HO_7.out); replace HO_8 := am (Kd.S_at hq_ HO_8.out); replace HO_9 := am (Kd.R_at hq_ HO_9.out); replace HL112_0 := am (Kd.R_at hq_ HL112_0.out); replace HL113_0 := am (Kd.R_at hq_ HL113_0.out); replace HB := am (below_at hq_ HB.out); clear hq_; (try (have HP35 := Kd.R_putg HO_9.out ((rd (rd_L19 t106 x11_1) x12_2) : Int) x11_1)))); refine store_event (t := 3) (p := 78) (v := ?vo_w36) (w1 := (wr.setCell ⟨go34, ((rd (rd_L19 t106 x11_1) x12_2) : Int).toNat, none⟩ (.int .i64 x11_1))) ?hg ?ho ?hn ?hr ?_; (case ho => rfl); (case hg => rfl); (case hn => rfl); (case hr => first | (go_simp; done) | (go_simp; rfl)); intro w36 hw; have hg : wr.grownBy w36 (some go34) := (by rw [hw]; exact HP35.2); have hp_ : Kd.R (Kd.int .i64) 3 w36 w.heap.size (fun _ => True) (.slice (some ⟨go34, 0, none⟩) x9_2.length co34) y118 := (by rw [hw, Ny118.out]; exact HP35.1); clear HP35; replace HO_7 := am (Kd.R_over' (v := (.slice (some ⟨go34, 0, none⟩) x9_2.length co34)) (by (with_reducible repeat (first | apply Ra | apply Rn | apply Rd)); exact HO_7.out) (Kd.R_typed HO_9.out) (by decide) hg); replace HO_8 := am (Kd.S_after (v := (.slice (some ⟨go34, 0, none⟩) x9_2.length co34)) (v1 := (.slice (some ⟨go34, 0, none⟩) x9_2.length co34)) (ok := (fun _ => True)) (by (with_reducible repeat (first | apply Kd.S_alloc | apply Kd.S_drewN | apply Kd.S_drew)); exact Kd.S_mono HO_8.out (fun _ hk => ⟨trivial, hk⟩)) hg (.inl rfl)); replace HO_9 := am (hp_); replace HL112_0 := am (Kd.R_after (v := (.slice (some ⟨go34, 0, none⟩) x9_2.length co34)) (v1 := (.slice (some ⟨go34, 0, none⟩) x9_2.length co34)) (ok := (fun k_ => some k_ ≠ (.slice (some ad112) t106.length co15 : Value).ownBlock)) (by (with_reducible repeat (first | apply Ra | apply Rn | apply Rd)); exact Kd.R_mono HL112_0.out (fun _ hk => ⟨hk.2, hk.1⟩)) hg (.inl rfl)); replace HL113_0 := am (Kd.R_after (v := (.slice (some ⟨go34, 0, none⟩) x9_2.length co34)) (v1 := (.slice (some ⟨go34, 0, none⟩) x9_2.length co34)) (ok := (fun k_ => some k_ ≠ (.slice (some ad112) t106.length co15 : Value).ownBlock)) (by (with_reducible repeat (first | apply Ra | apply Rn | apply Rd)); exact Kd.R_mono HL113_0.out (fun _ hk => ⟨hk.2, hk.1⟩)) hg (.inl rfl)); replace HB := am ((by rw [hw]; exact below_set (HB.out) GB34.out : Below w.heap.size w w36)); clear hg hw hp_)))
                 go_roundg k2
                 case measure => have := HK1.out; have := HK2.out; omega
                 case rel => exact ⟨(y118), (wrap64 (x10_2 + 1)), (wrap64 (x12_2 + 1)), (by first | rfl | (simp; done) | (simp [*]; done)), (by first | rfl | (simp; done) | (simp [*]; done)), H', ⟨by have := HK1.out; have := HK2.out; omega⟩, ⟨by (with_reducible repeat (first | apply Ra | apply Rn | apply Rd)); exact HO_7.out⟩, ⟨by (with_reducible repeat (first | apply Kd.S_alloc | apply Kd.S_drewN | apply Kd.S_drew)); exact Kd.S_mono HO_8.out (fun _ hk => hk.2)⟩, ⟨by (with_reducible repeat (first | apply Ra | apply Rn | apply Rd)); exact HO_9.out⟩, ⟨by repeat (first | (with_reducible first | exact HB.out | apply lA | apply lN | apply lD) | exact HB.out)⟩⟩
                ·rw [if_neg c33] at H
                 exact absurd H (by simp)
               ·rw [if_neg c32] at H
                exact absurd H (by simp)
           ·rw [if_neg c19] at H
            exact absurd H (by simp)
          ·rw [if_neg c18] at H
           have c18b0 : decide (x12_2 < ((rd_L19 t106 x11_1).length : Int)) = false := decide_eq_false c18
           clear c18
           have H' := am H
           clear H
           have p112 : 0 ≤ (x11_1 : Int) := of_decide_eq_true (by first | (with_reducible assumption) | assumption)
           have q112 : x11_1 < (t106.length : Int) := of_decide_eq_true (by first | (with_reducible assumption) | assumption)
           obtain ⟨ad112, A112_0, c112_0, e112, hx112_0, hl112_0, hi112_0⟩ := at_L19 (Kd.S_reads' HO_8.out).2.2 x11_1 p112 q112
           cases e112
           obtain ⟨ce112, hce112, hMe112, hcc112⟩ := Kd.S_get HO_8.out [] x11_1 p112 (by first | exact q112 | exact of_decide_eq_true (by first | (with_reducible assumption) | assumption) | (have e_ := (Kd.S_reads' HO_8.out).1; omega))
           obtain ⟨ve112_0, rfl, ge112_0⟩ := hMe112
           have hv112_0 := hcc112 0 _ rfl
           rw [Nat.add_zero, show ((Kd.slice 3 (Kd.int .i64))).sz = 1 from rfl, Nat.mul_one] at hv112_0
           replace hv112_0 := Option.some.inj (hv112_0.symm.trans hx112_0)
           rw [hv112_0] at ge112_0
           have HL112_0 := am (show Kd.R (Kd.int .i64) 3 _ _ _ _ (rd_L19 t106 x11_1) from ge112_0)
           clear hv112_0 ge112_0
           clear hcc112 hce112
           have HR112_0 := am hi112_0
           have HC112_0 := am hl112_0
           clear hi112_0 hl112_0
           replace p112 := eq_true p112
           replace q112 := eq_true q112
           go_wp2
           repeat (go_quiet (fail); try go_wp2)
           go_roundg k2
           case measure => have := HK1.out; have := HK2.out; omega
           case rel => exact ⟨(x9_2), (x10_2), (wrap64 (x11_1 + 1)), (by first | rfl | (simp; done) | (simp [*]; done)), (by first | rfl | (simp; done) | (simp [*]; done)), H', ⟨by have := HK1.out; have := HK2.out; omega⟩, ⟨by (with_reducible repeat (first | apply Ra | apply Rn | apply Rd)); exact HO_7.out⟩, ⟨by (with_reducible repeat (first | apply Kd.S_alloc | apply Kd.S_drewN | apply Kd.S_drew)); exact HO_8.out⟩, ⟨by (with_reducible repeat (first | apply Ra | apply Rn | apply Rd)); exact HO_9.out⟩, ⟨by repeat (first | (with_reducible first | exact HB.out | apply lA | apply lN | apply lD) | exact HB.out)⟩⟩
         ·rw [if_neg c17] at H
          exact absurd H (by simp)
        ·rw [if_neg c16] at H
         exact absurd H (by simp)
     ·rw [if_neg c14] at H
      have c14b0 : decide (x11_1 < (t106.length : Int)) = false := decide_eq_false c14
      clear c14
      have H' := am H
      clear H
      obtain ⟨Ao37, co37, eo37⟩ := Kd.S_slice HO_8.out
      subst eo37
      go_wp2
      repeat (go_quiet (fail); try go_wp2)
      go_loopg [14] k1 (fun kq v14 w' => ∃ (x14_2 : Int), v14 = .int .i64 x14_2 ∧ Aside0 (lambrequinlaw10_GraphParts.l2 kq t101 t102 t103 x9_1 x10_1 x14_2 = some r) ∧ Aside0 (kq ≤ k1) ∧ Aside0 (Kd.R k27 27 w' w.heap.size (fun _ => True) (.slice Ao10 t103.length co10) t103) ∧ Aside0 (Kd.R (Kd.int .i64) 3 w' w.heap.size (fun _ => True) v110 x9_1) ∧ Aside0 (Below w.heap.size w w'))
      case atStart => exact ⟨(0), (by first | rfl | (simp; done) | (simp [*]; done)), H', ⟨Nat.le_refl _⟩, ⟨by (with_reducible repeat (first | apply Ra | apply Rn | apply Rd)); exact HO_7.out⟩, ⟨by (with_reducible repeat (first | apply Ra | apply Rn | apply Rd)); exact HO_9.out⟩, ⟨by repeat (first | (with_reducible first | exact HB.out | apply lA | apply lN | apply lD) | exact HB.out)⟩⟩
      case round =>
       clear H'
       try clear c1
       try clear p1
       try clear q1
       try clear hx1
       try clear c2
       try clear p2
       try clear q2
       try clear hx2
       try clear hf2
       try clear c3
       try clear p3
       try clear q3
       try clear hx3
       try clear hf3
       try clear c5
       try clear c6
       try clear c6b0
       try clear c6b1
       try clear p6
       try clear c7
       try clear c7b0
       try clear c7b1
       try clear c11
       try clear p11
       try clear q11
       try clear hx11
       try clear c14
       try clear c14b0
       try clear c16
       try clear c16b0
       try clear c17
       try clear c17b0
       try clear c18
       try clear c18b0
       try clear c19
       try clear c19b0
       try clear c20
       try clear c20b0
       try clear c21
       try clear c21b0
       try clear c22
       try clear c22b0
       try clear c24
       try clear c24b0
       try clear c25
       try clear c25b0
       try clear c26
       try clear c26b0
       try clear c27
       try clear c27b0
       try clear c28
       try clear c28b0
       try clear p29
       try clear q29
       try clear hx29
       try clear hf29
       try clear c32
       try clear c32b0
       try clear c33
       try clear c33b0
       try clear p34
       try clear q34
       try clear hx34
       try clear hf34
       try clear hx112_0
       try clear hx113_0
       try clear hx114_0
       try clear hx115_0
       try clear hx116_0
       try clear hx29_0
       try clear hx34_0
       try clear p112
       try clear p113
       try clear p114
       try clear p115
       try clear p116
       try clear p2
       try clear p29
       try clear p34
       try clear q112
       try clear q113
       try clear q114
       try clear q115
       try clear q116
       try clear q29
       try clear q34
       obtain ⟨x14_2, rfl, HA, HK2, HO_7, HO_9, HB⟩ := hrel
       cases gk with
       | zero => exact absurd HA.out (by simp [lambrequinlaw10_GraphParts.l2])
       | succ k2 =>
        have H := HA.out
        clear HA
        simp only [lambrequinlaw10_GraphParts.l2] at H
        by_cases c38 : x14_2 < t102
        ·rw [if_pos c38] at H
         have c38b0 : decide (x14_2 < t102) = true := decide_eq_true c38
         clear c38
         replace H := Option.bind_eq_some_iff.mp H
         obtain ⟨t119, A390, H⟩ := H
         replace H : (lambrequinlaw10_GraphParts.l3 k2 t101 t102 t103 x9_1 x10_1 x14_2 t119 0) = some r := H
         have A39 := am A390
         clear A390
         have H' := am H
         clear H
         go_wp2_with (first | (go_at_call 22; (with_reducible refine (graph_Reach.calls k2 t102 _ _ t103 x14_2 t119 _ ?side1 ?side2 A39.out).mono ?_); (case side1 => repeat (first | exact (Kd.R_reads' HO_7.out).2.2 | (with_reducible refine Kd.C_alloc ?_ _) | (with_reducible refine Kd.C_drewN ?_ _) | (with_reducible refine Kd.C_drew ?_))); (case side2 => exact (Kd.R_reads' HO_7.out).2.1); rintro e w40 ⟨v120, rfl, ho0, hb⟩; replace HO_7 := am (Kd.R_below (by (with_reducible repeat (first | apply Ra | apply Rn | apply Rd)); exact HO_7.out) hb); replace HO_9 := am (Kd.R_below (by (with_reducible repeat (first | apply Ra | apply Rn | apply Rd)); exact HO_9.out) hb); have HO121 := am (Kd.R_lower ho0 (below_size (by repeat (first | (with_reducible first | exact HB.out | apply lA | apply lN | apply lD) | exact HB.out)))); replace HB := am (below_step (by repeat (first | (with_reducible first | exact HB.out | apply lA | apply lN | apply lD) | exact HB.out)) hb); (try clear hb); (try clear hb2); (try clear hk); (try clear hi); (try clear ho0)))
         repeat (go_quiet (first | (go_at_call 22; (with_reducible refine (graph_Reach.calls k2 t102 _ _ t103 x14_2 t119 _ ?side1 ?side2 A39.out).mono ?_); (case side1 => repeat (first | exact (Kd.R_reads' HO_7.out).2.2 | (with_reducible refine Kd.C_alloc ?_ _) | (with_reducible refine Kd.C_drewN ?_ _) | (with_reducible refine Kd.C_drew ?_))); (case side2 => exact (Kd.R_reads' HO_7.out).2.1); rintro e w40 ⟨v120, rfl, ho0, hb⟩; replace HO_7 := am (Kd.R_below (by (with_reducible repeat (first | apply Ra | apply Rn | apply Rd)); exact HO_7.out) hb); replace HO_9 := am (Kd.R_below (by (with_reducible repeat (first | apply Ra | apply Rn | apply Rd)); exact HO_9.out) hb); have HO121 := am (Kd.R_lower ho0 (below_size (by repeat (first | (with_reducible first | exact HB.out | apply lA | apply lN | apply lD) | exact HB.out)))); replace HB := am (below_step (by repeat (first | (with_reducible first | exact HB.out | apply lA | apply lN | apply lD) | exact HB.out)) hb); (try clear hb); (try clear hb2); (try clear hk); (try clear hi); (try clear ho0))); try go_wp2_with (first | (go_at_call 22; (with_reducible refine (graph_Reach.calls k2 t102 _ _ t103 x14_2 t119 _ ?side1 ?side2 A39.out).mono ?_); (case side1 => repeat (first | exact (Kd.R_reads' HO_7.out).2.2 | (with_reducible refine Kd.C_alloc ?_ _) | (with_reducible refine Kd.C_drewN ?_ _) | (with_reducible refine Kd.C_drew ?_))); (case side2 => exact (Kd.R_reads' HO_7.out).2.1); rintro e w40 ⟨v120, rfl, ho0, hb⟩; replace HO_7 := am (Kd.R_below (by (with_reducible repeat (first | apply Ra | apply Rn | apply Rd)); exact HO_7.out) hb); replace HO_9 := am (Kd.R_below (by (with_reducible repeat (first | apply Ra | apply Rn | apply Rd)); exact HO_9.out) hb); have HO121 := am (Kd.R_lower ho0 (below_size (by repeat (first | (with_reducible first | exact HB.out | apply lA | apply lN | apply lD) | exact HB.out)))); replace HB := am (below_step (by repeat (first | (with_reducible first | exact HB.out | apply lA | apply lN | apply lD) | exact HB.out)) hb); (try clear hb); (try clear hb2); (try clear hk); (try clear hi); (try clear ho0))))
         go_loopg [16] k2 (fun kq v16 w' => ∃ (x16_3 : Int), v16 = .int .i64 x16_3 ∧ Aside0 (lambrequinlaw10_GraphParts.l3 kq t101 t102 t103 x9_1 x10_1 x14_2 t119 x16_3 = some r) ∧ Aside0 (kq ≤ k2) ∧ Aside0 (Kd.R k27 27 w' w.heap.size (fun _ => True) (.slice Ao10 t103.length co10) t103) ∧ Aside0 (Kd.R (Kd.int .i64) 3 w' w.heap.size (fun _ => True) v110 x9_1) ∧ Aside0 (Kd.R Kd.bool 4 w' w.heap.size (fun _ => True) v120 t119) ∧ Aside0 (Below w.heap.size w w'))
         case atStart => exact ⟨(0), (by first | rfl | (simp; done) | (simp [*]; done)), H', ⟨Nat.le_refl _⟩, ⟨by (with_reducible repeat (first | apply Ra | apply Rn | apply Rd)); exact HO_7.out⟩, ⟨by (with_reducible repeat (first | apply Ra | apply Rn | apply Rd)); exact HO_9.out⟩, ⟨by (with_reducible repeat (first | apply Ra | apply Rn | apply Rd)); exact HO121.out⟩, ⟨by repeat (first | (with_reducible first | exact HB.out | apply lA | apply lN | apply lD) | exact HB.out)⟩⟩
         case round =>
          clear H'
          try clear c1
          try clear p1
          try clear q1
          try clear hx1
          try clear c2
          try clear p2
          try clear q2
          try clear hx2
          try clear hf2
          try clear c3
          try clear p3
          try clear q3
          try clear hx3
          try clear hf3
          try clear c5
          try clear c6
          try clear c6b0
          try clear c6b1
          try clear p6
          try clear c7
          try clear c7b0
          try clear c7b1
          try clear c11
          try clear p11
          try clear q11
          try clear hx11
          try clear c14
          try clear c14b0
          try clear c16
          try clear c16b0
          try clear c17
          try clear c17b0
          try clear c18
          try clear c18b0
          try clear c19
          try clear c19b0
          try clear c20
          try clear c20b0
          try clear c21
          try clear c21b0
          try clear c22
          try clear c22b0
          try clear c24
          try clear c24b0
          try clear c25
          try clear c25b0
          try clear c26
          try clear c26b0
          try clear c27
          try clear c27b0
          try clear c28
          try clear c28b0
          try clear p29
          try clear q29
          try clear hx29
          try clear hf29
          try clear c32
          try clear c32b0
          try clear c33
          try clear c33b0
          try clear p34
          try clear q34
          try clear hx34
          try clear hf34
          try clear c38
          try clear c38b0
          try clear hx112_0
          try clear hx113_0
          try clear hx114_0
          try clear hx115_0
          try clear hx116_0
          try clear hx29_0
          try clear hx34_0
          try clear p1
          try clear p11
          try clear p112
          try clear p113
          try clear p114
          try clear p115
          try clear p116
          try clear p2
          try clear p29
          try clear p3
          try clear p34
          try clear p6
          try clear q1
          try clear q11
          try clear q112
          try clear q113
          try clear q114
          try clear q115
          try clear q116
          try clear q2
          try clear q29
          try clear q3
          try clear q34
          obtain ⟨x16_3, rfl, HA, HK3, HO_7, HO_9, HO_15, HB⟩ := hrel
          cases gk with
          | zero => exact absurd HA.out (by simp [lambrequinlaw10_GraphParts.l3])
          | succ k3 =>
           have H := HA.out
           clear HA
           simp only [lambrequinlaw10_GraphParts.l3] at H
           by_cases c41 : x16_3 < t102
           ·rw [if_pos c41] at H
            have c41b0 : decide (x16_3 < t102) = true := decide_eq_true c41
            clear c41
            replace H := Option.bind_eq_some_iff.mp H
            obtain ⟨t122, A420, H⟩ := H
            replace H : (if (t119.length : Int) = t102 then (if (t122.length : Int) = t102 then (if 0 ≤ x14_2 then (if x14_2 < (x9_1.length : Int) then (if 0 ≤ x16_3 then (if x16_3 < (x9_1.length : Int) then (if x16_3 < (t119.length : Int) then (if rdOf false t119 x16_3 = true then (if x14_2 < (t122.length : Int) then (if (((rd x9_1 x14_2) == (rd x9_1 x16_3)) != (rdOf false t122 x14_2)) = true then (some false) else (if (rd x9_1 x16_3) > (rd x9_1 x14_2) then (some false) else (lambrequinlaw10_GraphParts.l3 k3 t101 t102 t103 x9_1 x10_1 x14_2 t119 (wrap64 (x16_3 + 1))))) else (none)) else (if (((rd x9_1 x14_2) == (rd x9_1 x16_3)) != false) = true then (some false) else (lambrequinlaw10_GraphParts.l3 k3 t101 t102 t103 x9_1 x10_1 x14_2 t119 (wrap64 (x16_3 + 1))))) else (none)) else (none)) else (none)) else (none)) else (none)) else (some false)) else (some false)) = some r := H
            have A42 := am A420
            clear A420
            by_cases c43 : (t119.length : Int) = t102
            ·rw [if_pos c43] at H
             have c43b0 : ((t119.length : Int) == t102) = true := beq_iff_eq.mpr c43
             have c43b1 : ((t119.length : Int) != t102) = false := bne_eq_false_iff_eq.mpr c43
             clear c43
             by_cases c44 : (t122.length : Int) = t102
             ·rw [if_pos c44] at H
              have c44b0 : ((t122.length : Int) == t102) = true := beq_iff_eq.mpr c44
              have c44b1 : ((t122.length : Int) != t102) = false := bne_eq_false_iff_eq.mpr c44
              clear c44
              by_cases c45 : 0 ≤ x14_2
              ·rw [if_pos c45] at H
               have c45b0 : decide (0 ≤ x14_2) = true := decide_eq_true c45
               clear c45
               by_cases c46 : x14_2 < (x9_1.length : Int)
               ·rw [if_pos c46] at H
                have c46b0 : decide (x14_2 < (x9_1.length : Int)) = true := decide_eq_true c46
                clear c46
                by_cases c47 : 0 ≤ x16_3
                ·rw [if_pos c47] at H
                 have c47b0 : decide (0 ≤ x16_3) = true := decide_eq_true c47
                 clear c47
                 by_cases c48 : x16_3 < (x9_1.length : Int)
                 ·rw [if_pos c48] at H
                  have c48b0 : decide (x16_3 < (x9_1.length : Int)) = true := decide_eq_true c48
                  clear c48
                  by_cases c49 : x16_3 < (t119.length : Int)
                  ·rw [if_pos c49] at H
                   have c49b0 : decide (x16_3 < (t119.length : Int)) = true := decide_eq_true c49
                   clear c49
                   obtain ⟨bq50, hbq50⟩ : ∃ b_ : Bool, b_ = (rdOf false t119 x16_3) := ⟨_, rfl⟩
                   replace H : (if bq50 = true then (if x14_2 < (t122.length : Int) then (if (((rd x9_1 x14_2) == (rd x9_1 x16_3)) != (rdOf false t122 x14_2)) = true then (some false) else (if (rd x9_1 x16_3) > (rd x9_1 x14_2) then (some false) else (lambrequinlaw10_GraphParts.l3 k3 t101 t102 t103 x9_1 x10_1 x14_2 t119 (wrap64 (x16_3 + 1))))) else (none)) else (if (((rd x9_1 x14_2) == (rd x9_1 x16_3)) != false) = true then (some false) else (lambrequinlaw10_GraphParts.l3 k3 t101 t102 t103 x9_1 x10_1 x14_2 t119 (wrap64 (x16_3 + 1))))) = some r := by rw [← hbq50] at H; exact H
                   have Nbq50 := am hbq50
                   clear hbq50
                   by_cases c51 : bq50 = true
                   ·subst c51
                    have H1 : (if x14_2 < (t122.length : Int) then (if (((rd x9_1 x14_2) == (rd x9_1 x16_3)) != (rdOf false t122 x14_2)) = true then (some false) else (if (rd x9_1 x16_3) > (rd x9_1 x14_2) then (some false) else (lambrequinlaw10_GraphParts.l3 k3 t101 t102 t103 x9_1 x10_1 x14_2 t119 (wrap64 (x16_3 + 1))))) else (none)) = some r := by rw [if_pos rfl] at H; exact H
                    clear H
                    have H := H1
                    clear H1
                    by_cases c52 : x14_2 < (t122.length : Int)
                    ·rw [if_pos c52] at H
                     have c52b0 : decide (x14_2 < (t122.length : Int)) = true := decide_eq_true c52
                     clear c52
                     by_cases c53 : (((rd x9_1 x14_2) == (rd x9_1 x16_3)) != (rdOf false t122 x14_2)) = true
                     ·rw [if_pos c53] at H
                      have c53b0 : (((rd x9_1 x14_2) == (rd x9_1 x16_3)) != (rdOf false t122 x14_2)) = true := c53
                      (try (have c53b1 : decide (((rd x9_1 x14_2) == (rd x9_1 x16_3)) = (rdOf false t122 x14_2)) = false := by simpa using c53))
                      (try (have c53b2 : (((rd x9_1 x14_2) == (rd x9_1 x16_3)) == (rdOf false t122 x14_2)) = false := by simpa using c53))
                      (try (have c53b3 : ¬ (((rd x9_1 x14_2) == (rd x9_1 x16_3)) = (rdOf false t122 x14_2)) := by simpa using c53))
                      clear c53
                      obtain rfl := Option.some.inj H
                      go_wp2_with (first | (go_at_call 22; (with_reducible refine (graph_Reach.calls k3 t102 _ _ t103 x16_3 t122 _ ?side1 ?side2 A42.out).mono ?_); (case side1 => repeat (first | exact (Kd.R_reads' HO_7.out).2.2 | (with_reducible refine Kd.C_alloc ?_ _) | (with_reducible refine Kd.C_drewN ?_ _) | (with_reducible refine Kd.C_drew ?_))); (case side2 => exact (Kd.R_reads' HO_7.out).2.1); rintro e w54 ⟨v123, rfl, ho0, hb⟩; replace HO_7 := am (Kd.R_below (by (with_reducible repeat (first | apply Ra | apply Rn | apply Rd)); exact HO_7.out) hb); replace HO_9 := am (Kd.R_below (by (with_reducible repeat (first | apply Ra | apply Rn | apply Rd)); exact HO_9.out) hb); have HO124 := am (Kd.R_lower (Kd.R_new' ho0 (Kd.R_lt (by (with_reducible repeat (first | apply Ra | apply Rn | apply Rd)); exact HO_15.out))) (below_size (by repeat (first | (with_reducible first | exact HB.out | apply lA | apply lN | apply lD) | exact HB.out)))); replace HO_15 := am (Kd.R_elder' (by (with_reducible repeat (first | apply Ra | apply Rn | apply Rd)); exact HO_15.out) (Kd.R_base ho0) hb); replace HB := am (below_step (by repeat (first | (with_reducible first | exact HB.out | apply lA | apply lN | apply lD) | exact HB.out)) hb); (try clear hb); (try clear hb2); (try clear hk); (try clear hi); (try clear ho0); obtain ⟨Ao55, co55, eo55⟩ := Kd.R_slice HO_15.out; subst eo55; obtain ⟨Ao56, co56, eo56⟩ := Kd.R_slice HO124.out; subst eo56; obtain ⟨Ao57, co57, eo57⟩ := Kd.R_slice HO_9.out; subst eo57; have p125 : 0 ≤ (x14_2 : Int) := of_decide_eq_true (by first | (with_reducible assumption) | assumption); have q125 : x14_2 < (x9_1.length : Int) := of_decide_eq_true (by first | (with_reducible assumption) | assumption); obtain ⟨ad125, e125, hx125_0⟩ := Kd.at_int (Kd.R_reads' HO_9.out).2.2 x14_2 p125 q125; cases e125; replace p125 := eq_true p125; replace q125 := eq_true q125; have p126 : 0 ≤ (x16_3 : Int) := of_decide_eq_true (by first | (with_reducible assumption) | assumption); have q126 : x16_3 < (x9_1.length : Int) := of_decide_eq_true (by first | (with_reducible assumption) | assumption); obtain ⟨ad126, e126, hx126_0⟩ := Kd.at_int (Kd.R_reads' HO_9.out).2.2 x16_3 p126 q126; obtain rfl : ad125 = ad126 := (by injection e126); replace p126 := eq_true p126; replace q126 := eq_true q126; have p127 : 0 ≤ (x16_3 : Int) := of_decide_eq_true (by first | (with_reducible assumption) | assumption); have q127 : x16_3 < (t119.length : Int) := of_decide_eq_true (by first | (with_reducible assumption) | assumption); obtain ⟨ad127, e127, hx127_0⟩ := Kd.at_bool (Kd.R_reads' HO_15.out).2.2 x16_3 p127 q127; (try rw [← Nbq50.out] at hx127_0); cases e127; replace p127 := eq_true p127; replace q127 := eq_true q127; have p128 : 0 ≤ (x14_2 : Int) := of_decide_eq_true (by first | (with_reducible assumption) | assumption); have q128 : x14_2 < (t122.length : Int) := of_decide_eq_true (by first | (with_reducible assumption) | assumption); obtain ⟨ad128, e128, hx128_0⟩ := Kd.at_bool (Kd.R_reads' HO124.out).2.2 x14_2 p128 q128; (try rw [← Nbq50.out] at hx128_0); cases e128; replace p128 := eq_true p128; replace q128 := eq_true q128))
                      repeat (go_quiet (first | (go_at_call 22; (with_reducible refine (graph_Reach.calls k3 t102 _ _ t103 x16_3 t122 _ ?side1 ?side2 A42.out).mono ?_); (case side1 => repeat (first | exact (Kd.R_reads' HO_7.out).2.2 | (with_reducible refine Kd.C_alloc ?_ _) | (with_reducible refine Kd.C_drewN ?_ _) | (with_reducible refine Kd.C_drew ?_))); (case side2 => exact (Kd.R_reads' HO_7.out).2.1); rintro e w54 ⟨v123, rfl, ho0, hb⟩; replace HO_7 := am (Kd.R_below (by (with_reducible repeat (first | apply Ra | apply Rn | apply Rd)); exact HO_7.out) hb); replace HO_9 := am (Kd.R_below (by (with_reducible repeat (first | apply Ra | apply Rn | apply Rd)); exact HO_9.out) hb); have HO124 := am (Kd.R_lower (Kd.R_new' ho0 (Kd.R_lt (by (with_reducible repeat (first | apply Ra | apply Rn | apply Rd)); exact HO_15.out))) (below_size (by repeat (first | (with_reducible first | exact HB.out | apply lA | apply lN | apply lD) | exact HB.out)))); replace HO_15 := am (Kd.R_elder' (by (with_reducible repeat (first | apply Ra | apply Rn | apply Rd)); exact HO_15.out) (Kd.R_base ho0) hb); replace HB := am (below_step (by repeat (first | (with_reducible first | exact HB.out | apply lA | apply lN | apply lD) | exact HB.out)) hb); (try clear hb); (try clear hb2); (try clear hk); (try clear hi); (try clear ho0); obtain ⟨Ao55, co55, eo55⟩ := Kd.R_slice HO_15.out; subst eo55; obtain ⟨Ao56, co56, eo56⟩ := Kd.R_slice HO124.out; subst eo56; obtain ⟨Ao57, co57, eo57⟩ := Kd.R_slice HO_9.out; subst eo57; have p125 : 0 ≤ (x14_2 : Int) := of_decide_eq_true (by first | (with_reducible assumption) | assumption); have q125 : x14_2 < (x9_1.length : Int) := of_decide_eq_true (by first | (with_reducible assumption) | assumption); obtain ⟨ad125, e125, hx125_0⟩ := Kd.at_int (Kd.R_reads' HO_9.out).2.2 x14_2 p125 q125; cases e125; replace p125 := eq_true p125; replace q125 := eq_true q125; have p126 : 0 ≤ (x16_3 : Int) := of_decide_eq_true (by first | (with_reducible assumption) | assumption); have q126 : x16_3 < (x9_1.length : Int) := of_decide_eq_true (by first | (with_reducible assumption) | assumption); obtain ⟨ad126, e126, hx126_0⟩ := Kd.at_int (Kd.R_reads' HO_9.out).2.2 x16_3 p126 q126; obtain rfl : ad125 = ad126 := (by injection e126); replace p126 := eq_true p126; replace q126 := eq_true q126; have p127 : 0 ≤ (x16_3 : Int) := of_decide_eq_true (by first | (with_reducible assumption) | assumption); have q127 : x16_3 < (t119.length : Int) := of_decide_eq_true (by first | (with_reducible assumption) | assumption); obtain ⟨ad127, e127, hx127_0⟩ := Kd.at_bool (Kd.R_reads' HO_15.out).2.2 x16_3 p127 q127; (try rw [← Nbq50.out] at hx127_0); cases e127; replace p127 := eq_true p127; replace q127 := eq_true q127; have p128 : 0 ≤ (x14_2 : Int) := of_decide_eq_true (by first | (with_reducible assumption) | assumption); have q128 : x14_2 < (t122.length : Int) := of_decide_eq_true (by first | (with_reducible assumption) | assumption); obtain ⟨ad128, e128, hx128_0⟩ := Kd.at_bool (Kd.R_reads' HO124.out).2.2 x14_2 p128 q128; (try rw [← Nbq50.out] at hx128_0); cases e128; replace p128 := eq_true p128; replace q128 := eq_true q128)); try go_wp2_with (first | (go_at_call 22; (with_reducible refine (graph_Reach.calls k3 t102 _ _ t103 x16_3 t122 _ ?side1 ?side2 A42.out).mono ?_); (case side1 => repeat (first | exact (Kd.R_reads' HO_7.out).2.2 | (with_reducible refine Kd.C_alloc ?_ _) | (with_reducible refine Kd.C_drewN ?_ _) | (with_reducible refine Kd.C_drew ?_))); (case side2 => exact (Kd.R_reads' HO_7.out).2.1); rintro e w54 ⟨v123, rfl, ho0, hb⟩; replace HO_7 := am (Kd.R_below (by (with_reducible repeat (first | apply Ra | apply Rn | apply Rd)); exact HO_7.out) hb); replace HO_9 := am (Kd.R_below (by (with_reducible repeat (first | apply Ra | apply Rn | apply Rd)); exact HO_9.out) hb); have HO124 := am (Kd.R_lower (Kd.R_new' ho0 (Kd.R_lt (by (with_reducible repeat (first | apply Ra | apply Rn | apply Rd)); exact HO_15.out))) (below_size (by repeat (first | (with_reducible first | exact HB.out | apply lA | apply lN | apply lD) | exact HB.out)))); replace HO_15 := am (Kd.R_elder' (by (with_reducible repeat (first | apply Ra | apply Rn | apply Rd)); exact HO_15.out) (Kd.R_base ho0) hb); replace HB := am (below_step (by repeat (first | (with_reducible first | exact HB.out | apply lA | apply lN | apply lD) | exact HB.out)) hb); (try clear hb); (try clear hb2); (try clear hk); (try clear hi); (try clear ho0); obtain ⟨Ao55, co55, eo55⟩ := Kd.R_slice HO_15.out; subst eo55; obtain ⟨Ao56, co56, eo56⟩ := Kd.R_slice HO124.out; subst eo56; obtain ⟨Ao57, co57, eo57⟩ := Kd.R_slice HO_9.out; subst eo57; have p125 : 0 ≤ (x14_2 : Int) := of_decide_eq_true (by first | (with_reducible assumption) | assumption); have q125 : x14_2 < (x9_1.length : Int) := of_decide_eq_true (by first | (with_reducible assumption) | assumption); obtain ⟨ad125, e125, hx125_0⟩ := Kd.at_int (Kd.R_reads' HO_9.out).2.2 x14_2 p125 q125; cases e125; replace p125 := eq_true p125; replace q125 := eq_true q125; have p126 : 0 ≤ (x16_3 : Int) := of_decide_eq_true (by first | (with_reducible assumption) | assumption); have q126 : x16_3 < (x9_1.length : Int) := of_decide_eq_true (by first | (with_reducible assumption) | assumption); obtain ⟨ad126, e126, hx126_0⟩ := Kd.at_int (Kd.R_reads' HO_9.out).2.2 x16_3 p126 q126; obtain rfl : ad125 = ad126 := (by injection e126); replace p126 := eq_true p126; replace q126 := eq_true q126; have p127 : 0 ≤ (x16_3 : Int) := of_decide_eq_true (by first | (with_reducible assumption) | assumption); have q127 : x16_3 < (t119.length : Int) := of_decide_eq_true (by first | (with_reducible assumption) | assumption); obtain ⟨ad127, e127, hx127_0⟩ := Kd.at_bool (Kd.R_reads' HO_15.out).2.2 x16_3 p127 q127; (try rw [← Nbq50.out] at hx127_0); cases e127; replace p127 := eq_true p127; replace q127 := eq_true q127; have p128 : 0 ≤ (x14_2 : Int) := of_decide_eq_true (by first | (with_reducible assumption) | assumption); have q128 : x14_2 < (t122.length : Int) := of_decide_eq_true (by first | (with_reducible assumption) | assumption); obtain ⟨ad128, e128, hx128_0⟩ := Kd.at_bool (Kd.R_reads' HO124.out).2.2 x14_2 p128 q128; (try rw [← Nbq50.out] at hx128_0); cases e128; replace p128 := eq_true p128; replace q128 := eq_true q128)))
                      go_ret
                      exact ⟨by first | rfl | (simp [errW_none, errW_some] <;> rfl) | (simp [*, errW_none, errW_some] <;> rfl), by repeat (first | (with_reducible first | exact HB.out | apply lA | apply lN | apply lD) | exact HB.out)⟩
                     ·rw [if_neg c53] at H
                      have c53b0 : (((rd x9_1 x14_2) == (rd x9_1 x16_3)) != (rdOf false t122 x14_2)) = false := by simpa using c53
                      (try (have c53b1 : decide (((rd x9_1 x14_2) == (rd x9_1 x16_3)) = (rdOf false t122 x14_2)) = true := by simpa using c53))
                      (try (have c53b2 : (((rd x9_1 x14_2) == (rd x9_1 x16_3)) == (rdOf false t122 x14_2)) = true := by simpa using c53))
                      clear c53
                      by_cases c58 : (rd x9_1 x16_3) > (rd x9_1 x14_2)
                      ·rw [if_pos c58] at H
                       have c58b0 : decide ((rd x9_1 x14_2) < (rd x9_1 x16_3)) = true := decide_eq_true c58
                       clear c58
                       obtain rfl := Option.some.inj H
                       go_wp2_with (first | (go_at_call 22; (with_reducible refine (graph_Reach.calls k3 t102 _ _ t103 x16_3 t122 _ ?side1 ?side2 A42.out).mono ?_); (case side1 => repeat (first | exact (Kd.R_reads' HO_7.out).2.2 | (with_reducible refine Kd.C_alloc ?_ _) | (with_reducible refine Kd.C_drewN ?_ _) | (with_reducible refine Kd.C_drew ?_))); (case side2 => exact (Kd.R_reads' HO_7.out).2.1); rintro e w59 ⟨v123, rfl, ho0, hb⟩; replace HO_7 := am (Kd.R_below (by (with_reducible repeat (first | apply Ra | apply Rn | apply Rd)); exact HO_7.out) hb); replace HO_9 := am (Kd.R_below (by (with_reducible repeat (first | apply Ra | apply Rn | apply Rd)); exact HO_9.out) hb); have HO124 := am (Kd.R_lower (Kd.R_new' ho0 (Kd.R_lt (by (with_reducible repeat (first | apply Ra | apply Rn | apply Rd)); exact HO_15.out))) (below_size (by repeat (first | (with_reducible first | exact HB.out | apply lA | apply lN | apply lD) | exact HB.out)))); replace HO_15 := am (Kd.R_elder' (by (with_reducible repeat (first | apply Ra | apply Rn | apply Rd)); exact HO_15.out) (Kd.R_base ho0) hb); replace HB := am (below_step (by repeat (first | (with_reducible first | exact HB.out | apply lA | apply lN | apply lD) | exact HB.out)) hb); (try clear hb); (try clear hb2); (try clear hk); (try clear hi); (try clear ho0); obtain ⟨Ao60, co60, eo60⟩ := Kd.R_slice HO_15.out; subst eo60; obtain ⟨Ao61, co61, eo61⟩ := Kd.R_slice HO124.out; subst eo61; obtain ⟨Ao62, co62, eo62⟩ := Kd.R_slice HO_9.out; subst eo62; have p125 : 0 ≤ (x14_2 : Int) := of_decide_eq_true (by first | (with_reducible assumption) | assumption); have q125 : x14_2 < (x9_1.length : Int) := of_decide_eq_true (by first | (with_reducible assumption) | assumption); obtain ⟨ad125, e125, hx125_0⟩ := Kd.at_int (Kd.R_reads' HO_9.out).2.2 x14_2 p125 q125; cases e125; replace p125 := eq_true p125; replace q125 := eq_true q125; have p126 : 0 ≤ (x16_3 : Int) := of_decide_eq_true (by first | (with_reducible assumption) | assumption); have q126 : x16_3 < (x9_1.length : Int) := of_decide_eq_true (by first | (with_reducible assumption) | assumption); obtain ⟨ad126, e126, hx126_0⟩ := Kd.at_int (Kd.R_reads' HO_9.out).2.2 x16_3 p126 q126; obtain rfl : ad125 = ad126 := (by injection e126); replace p126 := eq_true p126; replace q126 := eq_true q126; have p127 : 0 ≤ (x16_3 : Int) := of_decide_eq_true (by first | (with_reducible assumption) | assumption); have q127 : x16_3 < (t119.length : Int) := of_decide_eq_true (by first | (with_reducible assumption) | assumption); obtain ⟨ad127, e127, hx127_0⟩ := Kd.at_bool (Kd.R_reads' HO_15.out).2.2 x16_3 p127 q127; (try rw [← Nbq50.out] at hx127_0); cases e127; replace p127 := eq_true p127; replace q127 := eq_true q127; have p128 : 0 ≤ (x14_2 : Int) := of_decide_eq_true (by first | (with_reducible assumption) | assumption); have q128 : x14_2 < (t122.length : Int) := of_decide_eq_true (by first | (with_reducible assumption) | assumption); obtain ⟨ad128, e128, hx128_0⟩ := Kd.at_bool (Kd.R_reads' HO124.out).2.2 x14_2 p128 q128; (try rw [← Nbq50.out] at hx128_0); cases e128; replace p128 := eq_true p128; replace q128 := eq_true q128; have p129 : 0 ≤ (x16_3 : Int) := of_decide_eq_true (by first | (with_reducible assumption) | assumption); have q129 : x16_3 < (t119.length : Int) := of_decide_eq_true (by first | (with_reducible assumption) | assumption); obtain ⟨ad129, e129, hx129_0⟩ := Kd.at_bool (Kd.R_reads' HO_15.out).2.2 x16_3 p129 q129; (try rw [← Nbq50.out] at hx129_0); obtain rfl : ad127 = ad129 := (by injection e129); replace p129 := eq_true p129; replace q129 := eq_true q129; have p130 : 0 ≤ (x16_3 : Int) := of_decide_eq_true (by first | (with_reducible assumption) | assumption); have q130 : x16_3 < (x9_1.length : Int) := of_decide_eq_true (by first | (with_reducible assumption) | assumption); obtain ⟨ad130, e130, hx130_0⟩ := Kd.at_int (Kd.R_reads' HO_9.out).2.2 x16_3 p130 q130; obtain rfl : ad125 = ad130 := (by injection e130); replace p130 := eq_true p130; replace q130 := eq_true q130; have p131 : 0 ≤ (x14_2 : Int) := of_decide_eq_true (by first | (with_reducible assumption) | assumption); have q131 : x14_2 < (x9_1.length : Int) := of_decide_eq_true (by first | (with_reducible assumption) | assumption); obtain ⟨ad131, e131, hx131_0⟩ := Kd.at_int (Kd.R_reads' HO_9.out).2.2 x14_2 p131 q131; obtain rfl : ad125 = ad131 := (by injection e131); replace p131 := eq_true p131; replace q131 := eq_true q131))
                       repeat (go_quiet (first | (go_at_call 22; (with_reducible refine (graph_Reach.calls k3 t102 _ _ t103 x16_3 t122 _ ?side1 ?side2 A42.out).mono ?_); (case side1 => repeat (first | exact (Kd.R_reads' HO_7.out).2.2 | (with_reducible refine Kd.C_alloc ?_ _) | (with_reducible refine Kd.C_drewN ?_ _) | (with_reducible refine Kd.C_drew ?_))); (case side2 => exact (Kd.R_reads' HO_7.out).2.1); rintro e w59 ⟨v123, rfl, ho0, hb⟩; replace HO_7 := am (Kd.R_below (by (with_reducible repeat (first | apply Ra | apply Rn | apply Rd)); exact HO_7.out) hb); replace HO_9 := am (Kd.R_below (by (with_reducible repeat (first | apply Ra | apply Rn | apply Rd)); exact HO_9.out) hb); have HO124 := am (Kd.R_lower (Kd.R_new' ho0 (Kd.R_lt (by (with_reducible repeat (first | apply Ra | apply Rn | apply Rd)); exact HO_15.out))) (below_size (by repeat (first | (with_reducible first | exact HB.out | apply lA | apply lN | apply lD) | exact HB.out)))); replace HO_15 := am (Kd.R_elder' (by (with_reducible repeat (first | apply Ra | apply Rn | apply Rd)); exact HO_15.out) (Kd.R_base ho0) hb); replace HB := am (below_step (by repeat (first | (with_reducible first | exact HB.out | apply lA | apply lN | apply lD) | exact HB.out)) hb); (try clear hb); (try clear hb2); (try clear hk); (try clear hi); (try clear ho0); obtain ⟨Ao60, co60, eo60⟩ := Kd.R_slice HO_15.out; subst eo60; obtain ⟨Ao61, co61, eo61⟩ := Kd.R_slice HO124.out; subst eo61; obtain ⟨Ao62, co62, eo62⟩ := Kd.R_slice HO_9.out; subst eo62; have p125 : 0 ≤ (x14_2 : Int) := of_decide_eq_true (by first | (with_reducible assumption) | assumption); have q125 : x14_2 < (x9_1.length : Int) := of_decide_eq_true (by first | (with_reducible assumption) | assumption); obtain ⟨ad125, e125, hx125_0⟩ := Kd.at_int (Kd.R_reads' HO_9.out).2.2 x14_2 p125 q125; cases e125; replace p125 := eq_true p125; replace q125 := eq_true q125; have p126 : 0 ≤ (x16_3 : Int) := of_decide_eq_true (by first | (with_reducible assumption) | assumption); have q126 : x16_3 < (x9_1.length : Int) := of_decide_eq_true (by first | (with_reducible assumption) | assumption); obtain ⟨ad126, e126, hx126_0⟩ := Kd.at_int (Kd.R_reads' HO_9.out).2.2 x16_3 p126 q126; obtain rfl : ad125 = ad126 := (by injection e126); replace p126 := eq_true p126; replace q126 := eq_true q126; have p127 : 0 ≤ (x16_3 : Int) := of_decide_eq_true (by first | (with_reducible assumption) | assumption); have q127 : x16_3 < (t119.length : Int) := of_decide_eq_true (by first | (with_reducible assumption) | assumption); obtain ⟨ad127, e127, hx127_0⟩ := Kd.at_bool (Kd.R_reads' HO_15.out).2.2 x16_3 p127 q127; (try rw [← Nbq50.out] at hx127_0); cases e127; replace p127 := eq_true p127; replace q127 := eq_true q127; have p128 : 0 ≤ (x14_2 : Int) := of_decide_eq_true (by first | (with_reducible assumption) | assumption); have q128 : x14_2 < (t122.length : Int) := of_decide_eq_true (by first | (with_reducible assumption) | assumption); obtain ⟨ad128, e128, hx128_0⟩ := Kd.at_bool (Kd.R_reads' HO124.out).2.2 x14_2 p128 q128; (try rw [← Nbq50.out] at hx128_0); cases e128; replace p128 := eq_true p128; replace q128 := eq_true q128; have p129 : 0 ≤ (x16_3 : Int) := of_decide_eq_true (by first | (with_reducible assumption) | assumption); have q129 : x16_3 < (t119.length : Int) := of_decide_eq_true (by first | (with_reducible assumption) | assumption); obtain ⟨ad129, e129, hx129_0⟩ := Kd.at_bool (Kd.R_reads' HO_15.out).2.2 x16_3 p129 q129; (try rw [← Nbq50.out] at hx129_0); obtain rfl : ad127 = ad129 := (by injection e129); replace p129 := eq_true p129; replace q129 := eq_true q129; have p130 : 0 ≤ (x16_3 : Int) := of_decide_eq_true (by first | (with_reducible assumption) | assumption); have q130 : x16_3 < (x9_1.length : Int) := of_decide_eq_true (by first | (with_reducible assumption) | assumption); obtain ⟨ad130, e130, hx130_0⟩ := Kd.at_int (Kd.R_reads' HO_9.out).2.2 x16_3 p130 q130; obtain rfl : ad125 = ad130 := (by injection e130); replace p130 := eq_true p130; replace q130 := eq_true q130; have p131 : 0 ≤ (x14_2 : Int) := of_decide_eq_true (by first | (with_reducible assumption) | assumption); have q131 : x14_2 < (x9_1.length : Int) := of_decide_eq_true (by first | (with_reducible assumption) | assumption); obtain ⟨ad131, e131, hx131_0⟩ := Kd.at_int (Kd.R_reads' HO_9.out).2.2 x14_2 p131 q131; obtain rfl : ad125 = ad131 := (by injection e131); replace p131 := eq_true p131; replace q131 := eq_true q131)); try go_wp2_with (first | (go_at_call 22; (with_reducible refine (graph_Reach.calls k3 t102 _ _ t103 x16_3 t122 _ ?side1 ?side2 A42.out).mono ?_); (case side1 => repeat (first | exact (Kd.R_reads' HO_7.out).2.2 | (with_reducible refine Kd.C_alloc ?_ _) | (with_reducible refine Kd.C_drewN ?_ _) | (with_reducible refine Kd.C_drew ?_))); (case side2 => exact (Kd.R_reads' HO_7.out).2.1); rintro e w59 ⟨v123, rfl, ho0, hb⟩; replace HO_7 := am (Kd.R_below (by (with_reducible repeat (first | apply Ra | apply Rn | apply Rd)); exact HO_7.out) hb); replace HO_9 := am (Kd.R_below (by (with_reducible repeat (first | apply Ra | apply Rn | apply Rd)); exact HO_9.out) hb); have HO124 := am (Kd.R_lower (Kd.R_new' ho0 (Kd.R_lt (by (with_reducible repeat (first | apply Ra | apply Rn | apply Rd)); exact HO_15.out))) (below_size (by repeat (first | (with_reducible first | exact HB.out | apply lA | apply lN | apply lD) | exact HB.out)))); replace HO_15 := am (Kd.R_elder' (by (with_reducible repeat (first | apply Ra | apply Rn | apply Rd)); exact HO_15.out) (Kd.R_base ho0) hb); replace HB := am (below_step (by repeat (first | (with_reducible first | exact HB.out | apply lA | apply lN | apply lD) | exact HB.out)) hb); (try clear hb); (try clear hb2); (try clear hk); (try clear hi); (try clear ho0); obtain ⟨Ao60, co60, eo60⟩ := Kd.R_slice HO_15.out; subst eo60; obtain ⟨Ao61, co61, eo61⟩ := Kd.R_slice HO124.out; subst eo61; obtain ⟨Ao62, co62, eo62⟩ := Kd.R_slice HO_9.out; subst eo62; have p125 : 0 ≤ (x14_2 : Int) := of_decide_eq_true (by first | (with_reducible assumption) | assumption); have q125 : x14_2 < (x9_1.length : Int) := of_decide_eq_true (by first | (with_reducible assumption) | assumption); obtain ⟨ad125, e125, hx125_0⟩ := Kd.at_int (Kd.R_reads' HO_9.out).2.2 x14_2 p125 q125; cases e125; replace p125 := eq_true p125; replace q125 := eq_true q125; have p126 : 0 ≤ (x16_3 : Int) := of_decide_eq_true (by first | (with_reducible assumption) | assumption); have q126 : x16_3 < (x9_1.length : Int) := of_decide_eq_true (by first | (with_reducible assumption) | assumption); obtain ⟨ad126, e126, hx126_0⟩ := Kd.at_int (Kd.R_reads' HO_9.out).2.2 x16_3 p126 q126; obtain rfl : ad125 = ad126 := (by injection e126); replace p126 := eq_true p126; replace q126 := eq_true q126; have p127 : 0 ≤ (x16_3 : Int) := of_decide_eq_true (by first | (with_reducible assumption) | assumption); have q127 : x16_3 < (t119.length : Int) := of_decide_eq_true (by first | (with_reducible assumption) | assumption); obtain ⟨ad127, e127, hx127_0⟩ := Kd.at_bool (Kd.R_reads' HO_15.out).2.2 x16_3 p127 q127; (try rw [← Nbq50.out] at hx127_0); cases e127; replace p127 := eq_true p127; replace q127 := eq_true q127; have p128 : 0 ≤ (x14_2 : Int) := of_decide_eq_true (by first | (with_reducible assumption) | assumption); have q128 : x14_2 < (t122.length : Int) := of_decide_eq_true (by first | (with_reducible assumption) | assumption); obtain ⟨ad128, e128, hx128_0⟩ := Kd.at_bool (Kd.R_reads' HO124.out).2.2 x14_2 p128 q128; (try rw [← Nbq50.out] at hx128_0); cases e128; replace p128 := eq_true p128; replace q128 := eq_true q128; have p129 : 0 ≤ (x16_3 : Int) := of_decide_eq_true (by first | (with_reducible assumption) | assumption); have q129 : x16_3 < (t119.length : Int) := of_decide_eq_true (by first | (with_reducible assumption) | assumption); obtain ⟨ad129, e129, hx129_0⟩ := Kd.at_bool (Kd.R_reads' HO_15.out).2.2 x16_3 p129 q129; (try rw [← Nbq50.out] at hx129_0); obtain rfl : ad127 = ad129 := (by injection e129); replace p129 := eq_true p129; replace q129 := eq_true q129; have p130 : 0 ≤ (x16_3 : Int) := of_decide_eq_true (by first | (with_reducible assumption) | assumption); have q130 : x16_3 < (x9_1.length : Int) := of_decide_eq_true (by first | (with_reducible assumption) | assumption); obtain ⟨ad130, e130, hx130_0⟩ := Kd.at_int (Kd.R_reads' HO_9.out).2.2 x16_3 p130 q130; obtain rfl : ad125 = ad130 := (by injection e130); replace p130 := eq_true p130; replace q130 := eq_true q130; have p131 : 0 ≤ (x14_2 : Int) := of_decide_eq_true (by first | (with_reducible assumption) | assumption); have q131 : x14_2 < (x9_1.length : Int) := of_decide_eq_true (by first | (with_reducible assumption) | assumption); obtain ⟨ad131, e131, hx131_0⟩ := Kd.at_int (Kd.R_reads' HO_9.out).2.2 x14_2 p131 q131; obtain rfl : ad125 = ad131 := (by injection e131); replace p131 := eq_true p131; replace q131 := eq_true q131)))
                       go_ret
                       exact ⟨by first | rfl | (simp [errW_none, errW_some] <;> rfl) | (simp [*, errW_none, errW_some] <;> rfl), by repeat (first | (with_reducible first | exact HB.out | apply lA | apply lN | apply lD) | exact HB.out)⟩
                      ·rw [if_neg c58] at H
                       have c58b0 : decide ((rd x9_1 x14_2) < (rd x9_1 x16_3)) = false := decide_eq_false c58
                       clear c58
                       have H' := am H
                       clear H
                       go_wp2_with (first | (go_at_call 22; (with_reducible refine (graph_Reach.calls k3 t102 _ _ t103 x16_3 t122 _ ?side1 ?side2 A42.out).mono ?_); (case side1 => repeat (first | exact (Kd.R_reads' HO_7.out).2.2 | (with_reducible refine Kd.C_alloc ?_ _) | (with_reducible refine Kd.C_drewN ?_ _) | (with_reducible refine Kd.C_drew ?_))); (case side2 => exact (Kd.R_reads' HO_7.out).2.1); rintro e w63 ⟨v123, rfl, ho0, hb⟩; replace HO_7 := am (Kd.R_below (by (with_reducible repeat (first | apply Ra | apply Rn | apply Rd)); exact HO_7.out) hb); replace HO_9 := am (Kd.R_below (by (with_reducible repeat (first | apply Ra | apply Rn | apply Rd)); exact HO_9.out) hb); have HO124 := am (Kd.R_lower (Kd.R_new' ho0 (Kd.R_lt (by (with_reducible repeat (first | apply Ra | apply Rn | apply Rd)); exact HO_15.out))) (below_size (by repeat (first | (with_reducible first | exact HB.out | apply lA | apply lN | apply lD) | exact HB.out)))); replace HO_15 := am (Kd.R_elder' (by (with_reducible repeat (first | apply Ra | apply Rn | apply Rd)); exact HO_15.out) (Kd.R_base ho0) hb); replace HB := am (below_step (by repeat (first | (with_reducible first | exact HB.out | apply lA | apply lN | apply lD) | exact HB.out)) hb); (try clear hb); (try clear hb2); (try clear hk); (try clear hi); (try clear ho0); obtain ⟨Ao64, co64, eo64⟩ := Kd.R_slice HO_15.out; subst eo64; obtain ⟨Ao65, co65, eo65⟩ := Kd.R_slice HO124.out; subst eo65; obtain ⟨Ao66, co66, eo66⟩ := Kd.R_slice HO_9.out; subst eo66; have p125 : 0 ≤ (x14_2 : Int) := of_decide_eq_true (by first | (with_reducible assumption) | assumption); have q125 : x14_2 < (x9_1.length : Int) := of_decide_eq_true (by first | (with_reducible assumption) | assumption); obtain ⟨ad125, e125, hx125_0⟩ := Kd.at_int (Kd.R_reads' HO_9.out).2.2 x14_2 p125 q125; cases e125; replace p125 := eq_true p125; replace q125 := eq_true q125; have p126 : 0 ≤ (x16_3 : Int) := of_decide_eq_true (by first | (with_reducible assumption) | assumption); have q126 : x16_3 < (x9_1.length : Int) := of_decide_eq_true (by first | (with_reducible assumption) | assumption); obtain ⟨ad126, e126, hx126_0⟩ := Kd.at_int (Kd.R_reads' HO_9.out).2.2 x16_3 p126 q126; obtain rfl : ad125 = ad126 := (by injection e126); replace p126 := eq_true p126; replace q126 := eq_true q126; have p127 : 0 ≤ (x16_3 : Int) := of_decide_eq_true (by first | (with_reducible assumption) | assumption); have q127 : x16_3 < (t119.length : Int) := of_decide_eq_true (by first | (with_reducible assumption) | assumption); obtain ⟨ad127, e127, hx127_0⟩ := Kd.at_bool (Kd.R_reads' HO_15.out).2.2 x16_3 p127 q127; (try rw [← Nbq50.out] at hx127_0); cases e127; replace p127 := eq_true p127; replace q127 := eq_true q127; have p128 : 0 ≤ (x14_2 : Int) := of_decide_eq_true (by first | (with_reducible assumption) | assumption); have q128 : x14_2 < (t122.length : Int) := of_decide_eq_true (by first | (with_reducible assumption) | assumption); obtain ⟨ad128, e128, hx128_0⟩ := Kd.at_bool (Kd.R_reads' HO124.out).2.2 x14_2 p128 q128; (try rw [← Nbq50.out] at hx128_0); cases e128; replace p128 := eq_true p128; replace q128 := eq_true q128; have p129 : 0 ≤ (x16_3 : Int) := of_decide_eq_true (by first | (with_reducible assumption) | assumption); have q129 : x16_3 < (t119.length : Int) := of_decide_eq_true (by first | (with_reducible assumption) | assumption); obtain ⟨ad129, e129, hx129_0⟩ := Kd.at_bool (Kd.R_reads' HO_15.out).2.2 x16_3 p129 q129; (try rw [← Nbq50.out] at hx129_0); obtain rfl : ad127 = ad129 := (by injection e129); replace p129 := eq_true p129; replace q129 := eq_true q129; have p130 : 0 ≤ (x16_3 : Int) := of_decide_eq_true (by first | (with_reducible assumption) | assumption); have q130 : x16_3 < (x9_1.length : Int) := of_decide_eq_true (by first | (with_reducible assumption) | assumption); obtain ⟨ad130, e130, hx130_0⟩ := Kd.at_int (Kd.R_reads' HO_9.out).2.2 x16_3 p130 q130; obtain rfl : ad125 = ad130 := (by injection e130); replace p130 := eq_true p130; replace q130 := eq_true q130; have p131 : 0 ≤ (x14_2 : Int) := of_decide_eq_true (by first | (with_reducible assumption) | assumption); have q131 : x14_2 < (x9_1.length : Int) := of_decide_eq_true (by first | (with_reducible assumption) | assumption); obtain ⟨ad131, e131, hx131_0⟩ := Kd.at_int (Kd.R_reads' HO_9.out).2.2 x14_2 p131 q131; obtain rfl : ad125 = ad131 := (by injection e131); replace p131 := eq_true p131; replace q131 := eq_true q131))
                       repeat (go_quiet (first | (go_at_call 22; (with_reducible refine (graph_Reach.calls k3 t102 _ _ t103 x16_3 t122 _ ?side1 ?side2 A42.out).mono ?_); (case side1 => repeat (first | exact (Kd.R_reads' HO_7.out).2.2 | (with_reducible refine Kd.C_alloc ?_ _) | (with_reducible refine Kd.C_drewN ?_ _) | (with_reducible refine Kd.C_drew ?_))); (case side2 => exact (Kd.R_reads' HO_7.out).2.1); rintro e w63 ⟨v123, rfl, ho0, hb⟩; replace HO_7 := am (Kd.R_below (by (with_reducible repeat (first | apply Ra | apply Rn | apply Rd)); exact HO_7.out) hb); replace HO_9 := am (Kd.R_below (by (with_reducible repeat (first | apply Ra | apply Rn | apply Rd)); exact HO_9.out) hb); have HO124 := am (Kd.R_lower (Kd.R_new' ho0 (Kd.R_lt (by (with_reducible repeat (first | apply Ra | apply Rn | apply Rd)); exact HO_15.out))) (below_size (by repeat (first | (with_reducible first | exact HB.out | apply lA | apply lN | apply lD) | exact HB.out)))); replace HO_15 := am (Kd.R_elder' (by (with_reducible repeat (first | apply Ra | apply Rn | apply Rd)); exact HO_15.out) (Kd.R_base ho0) hb); replace HB := am (below_step (by repeat (first | (with_reducible first | exact HB.out | apply lA | apply lN | apply lD) | exact HB.out)) hb); (try clear hb); (try clear hb2); (try clear hk); (try clear hi); (try clear ho0); obtain ⟨Ao64, co64, eo64⟩ := Kd.R_slice HO_15.out; subst eo64; obtain ⟨Ao65, co65, eo65⟩ := Kd.R_slice HO124.out; subst eo65; obtain ⟨Ao66, co66, eo66⟩ := Kd.R_slice HO_9.out; subst eo66; have p125 : 0 ≤ (x14_2 : Int) := of_decide_eq_true (by first | (with_reducible assumption) | assumption); have q125 : x14_2 < (x9_1.length : Int) := of_decide_eq_true (by first | (with_reducible assumption) | assumption); obtain ⟨ad125, e125, hx125_0⟩ := Kd.at_int (Kd.R_reads' HO_9.out).2.2 x14_2 p125 q125; cases e125; replace p125 := eq_true p125; replace q125 := eq_true q125; have p126 : 0 ≤ (x16_3 : Int) := of_decide_eq_true (by first | (with_reducible assumption) | assumption); have q126 : x16_3 < (x9_1.length : Int) := of_decide_eq_true (by first | (with_reducible assumption) | assumption); obtain ⟨ad126, e126, hx126_0⟩ := Kd.at_int (Kd.R_reads' HO_9.out).2.2 x16_3 p126 q126; obtain rfl : ad125 = ad126 := (by injection e126); replace p126 := eq_true p126; replace q126 := eq_true q126; have p127 : 0 ≤ (x16_3 : Int) := of_decide_eq_true (by first | (with_reducible assumption) | assumption); have q127 : x16_3 < (t119.length : Int) := of_decide_eq_true (by first | (with_reducible assumption) | assumption); obtain ⟨ad127, e127, hx127_0⟩ := Kd.at_bool (Kd.R_reads' HO_15.out).2.2 x16_3 p127 q127; (try rw [← Nbq50.out] at hx127_0); cases e127; replace p127 := eq_true p127; replace q127 := eq_true q127; have p128 : 0 ≤ (x14_2 : Int) := of_decide_eq_true (by first | (with_reducible assumption) | assumption); have q128 : x14_2 < (t122.length : Int) := of_decide_eq_true (by first | (with_reducible assumption) | assumption); obtain ⟨ad128, e128, hx128_0⟩ := Kd.at_bool (Kd.R_reads' HO124.out).2.2 x14_2 p128 q128; (try rw [← Nbq50.out] at hx128_0); cases e128; replace p128 := eq_true p128; replace q128 := eq_true q128; have p129 : 0 ≤ (x16_3 : Int) := of_decide_eq_true (by first | (with_reducible assumption) | assumption); have q129 : x16_3 < (t119.length : Int) := of_decide_eq_true (by first | (with_reducible assumption) | assumption); obtain ⟨ad129, e129, hx129_0⟩ := Kd.at_bool (Kd.R_reads' HO_15.out).2.2 x16_3 p129 q129; (try rw [← Nbq50.out] at hx129_0); obtain rfl : ad127 = ad129 := (by injection e129); replace p129 := eq_true p129; replace q129 := eq_true q129; have p130 : 0 ≤ (x16_3 : Int) := of_decide_eq_true (by first | (with_reducible assumption) | assumption); have q130 : x16_3 < (x9_1.length : Int) := of_decide_eq_true (by first | (with_reducible assumption) | assumption); obtain ⟨ad130, e130, hx130_0⟩ := Kd.at_int (Kd.R_reads' HO_9.out).2.2 x16_3 p130 q130; obtain rfl : ad125 = ad130 := (by injection e130); replace p130 := eq_true p130; replace q130 := eq_true q130; have p131 : 0 ≤ (x14_2 : Int) := of_decide_eq_true (by first | (with_reducible assumption) | assumption); have q131 : x14_2 < (x9_1.length : Int) := of_decide_eq_true (by first | (with_reducible assumption) | assumption); obtain ⟨ad131, e131, hx131_0⟩ := Kd.at_int (Kd.R_reads' HO_9.out).2.2 x14_2 p131 q131; obtain rfl : ad125 = ad131 := (by injection e131); replace p131 := eq_true p131; replace q131 := eq_true q131)); try go_wp2_with (first | (go_at_call 22; (with_reducible refine (graph_Reach.calls k3 t102 _ _ t103 x16_3 t122 _ ?side1 ?side2 A42.out).mono ?_); (case side1 => repeat (first | exact (Kd.R_reads' HO_7.out).2.2 | (with_reducible refine Kd.C_alloc ?_ _) | (with_reducible refine Kd.C_drewN ?_ _) | (with_reducible refine Kd.C_drew ?_))); (case side2 => exact (Kd.R_reads' HO_7.out).2.1); rintro e w63 ⟨v123, rfl, ho0, hb⟩; replace HO_7 := am (Kd.R_below (by (with_reducible repeat (first | apply Ra | apply Rn | apply Rd)); exact HO_7.out) hb); replace HO_9 := am (Kd.R_below (by (with_reducible repeat (first | apply Ra | apply Rn | apply Rd)); exact HO_9.out) hb); have HO124 := am (Kd.R_lower (Kd.R_new' ho0 (Kd.R_lt (by (with_reducible repeat (first | apply Ra | apply Rn | apply Rd)); exact HO_15.out))) (below_size (by repeat (first | (with_reducible first | exact HB.out | apply lA | apply lN | apply lD) | exact HB.out)))); replace HO_15 := am (Kd.R_elder' (by (with_reducible repeat (first | apply Ra | apply Rn | apply Rd)); exact HO_15.out) (Kd.R_base ho0) hb); replace HB := am (below_step (by repeat (first | (with_reducible first | exact HB.out | apply lA | apply lN | apply lD) | exact HB.out)) hb); (try clear hb); (try clear hb2); (try clear hk); (try clear hi); (try clear ho0); obtain ⟨Ao64, co64, eo64⟩ := Kd.R_slice HO_15.out; subst eo64; obtain ⟨Ao65, co65, eo65⟩ := Kd.R_slice HO124.out; subst eo65; obtain ⟨Ao66, co66, eo66⟩ := Kd.R_slice HO_9.out; subst eo66; have p125 : 0 ≤ (x14_2 : Int) := of_decide_eq_true (by first | (with_reducible assumption) | assumption); have q125 : x14_2 < (x9_1.length : Int) := of_decide_eq_true (by first | (with_reducible assumption) | assumption); obtain ⟨ad125, e125, hx125_0⟩ := Kd.at_int (Kd.R_reads' HO_9.out).2.2 x14_2 p125 q125; cases e125; replace p125 := eq_true p125; replace q125 := eq_true q125; have p126 : 0 ≤ (x16_3 : Int) := of_decide_eq_true (by first | (with_reducible assumption) | assumption); have q126 : x16_3 < (x9_1.length : Int) := of_decide_eq_true (by first | (with_reducible assumption) | assumption); obtain ⟨ad126, e126, hx126_0⟩ := Kd.at_int (Kd.R_reads' HO_9.out).2.2 x16_3 p126 q126; obtain rfl : ad125 = ad126 := (by injection e126); replace p126 := eq_true p126; replace q126 := eq_true q126; have p127 : 0 ≤ (x16_3 : Int) := of_decide_eq_true (by first | (with_reducible assumption) | assumption); have q127 : x16_3 < (t119.length : Int) := of_decide_eq_true (by first | (with_reducible assumption) | assumption); obtain ⟨ad127, e127, hx127_0⟩ := Kd.at_bool (Kd.R_reads' HO_15.out).2.2 x16_3 p127 q127; (try rw [← Nbq50.out] at hx127_0); cases e127; replace p127 := eq_true p127; replace q127 := eq_true q127; have p128 : 0 ≤ (x14_2 : Int) := of_decide_eq_true (by first | (with_reducible assumption) | assumption); have q128 : x14_2 < (t122.length : Int) := of_decide_eq_true (by first | (with_reducible assumption) | assumption); obtain ⟨ad128, e128, hx128_0⟩ := Kd.at_bool (Kd.R_reads' HO124.out).2.2 x14_2 p128 q128; (try rw [← Nbq50.out] at hx128_0); cases e128; replace p128 := eq_true p128; replace q128 := eq_true q128; have p129 : 0 ≤ (x16_3 : Int) := of_decide_eq_true (by first | (with_reducible assumption) | assumption); have q129 : x16_3 < (t119.length : Int) := of_decide_eq_true (by first | (with_reducible assumption) | assumption); obtain ⟨ad129, e129, hx129_0⟩ := Kd.at_bool (Kd.R_reads' HO_15.out).2.2 x16_3 p129 q129; (try rw [← Nbq50.out] at hx129_0); obtain rfl : ad127 = ad129 := (by injection e129); replace p129 := eq_true p129; replace q129 := eq_true q129; have p130 : 0 ≤ (x16_3 : Int) := of_decide_eq_true (by first | (with_reducible assumption) | assumption); have q130 : x16_3 < (x9_1.length : Int) := of_decide_eq_true (by first | (with_reducible assumption) | assumption); obtain ⟨ad130, e130, hx130_0⟩ := Kd.at_int (Kd.R_reads' HO_9.out).2.2 x16_3 p130 q130; obtain rfl : ad125 = ad130 := (by injection e130); replace p130 := eq_true p130; replace q130 := eq_true q130; have p131 : 0 ≤ (x14_2 : Int) := of_decide_eq_true (by first | (with_reducible assumption) | assumption); have q131 : x14_2 < (x9_1.length : Int) := of_decide_eq_true (by first | (with_reducible assumption) | assumption); obtain ⟨ad131, e131, hx131_0⟩ := Kd.at_int (Kd.R_reads' HO_9.out).2.2 x14_2 p131 q131; obtain rfl : ad125 = ad131 := (by injection e131); replace p131 := eq_true p131; replace q131 := eq_true q131)))
                       go_roundg k3
                       case measure => have := HK1.out; have := HK2.out; have := HK3.out; omega
                       case rel => exact ⟨(wrap64 (x16_3 + 1)), (by first | rfl | (simp; done) | (simp [*]; done)), H', ⟨by have := HK1.out; have := HK2.out; have := HK3.out; omega⟩, ⟨by (with_reducible repeat (first | apply Ra | apply Rn | apply Rd)); exact HO_7.out⟩, ⟨by (with_reducible repeat (first | apply Ra | apply Rn | apply Rd)); exact HO_9.out⟩, ⟨by (with_reducible repeat (first | apply Ra | apply Rn | apply Rd)); exact Kd.R_mono HO_15.out (fun _ hk => trivial)⟩, ⟨by repeat (first | (with_reducible first | exact HB.out | apply lA | apply lN | apply lD) | exact HB.out)⟩⟩
                    ·rw [if_neg c52] at H
                     exact absurd H (by simp)
                   ·replace c51 := Bool.eq_false_iff.mpr c51
                    subst c51
                    have H1 : (if (((rd x9_1 x14_2) == (rd x9_1 x16_3)) != false) = true then (some false) else (lambrequinlaw10_GraphParts.l3 k3 t101 t102 t103 x9_1 x10_1 x14_2 t119 (wrap64 (x16_3 + 1)))) = some r := by rw [if_neg (show ¬ (false = true) by decide)] at H; exact H
                    clear H
                    have H := H1
                    clear H1
                    by_cases c67 : (((rd x9_1 x14_2) == (rd x9_1 x16_3)) != false) = true
                    ·rw [if_pos c67] at H
                     have c67b0 : (((rd x9_1 x14_2) == (rd x9_1 x16_3)) != false) = true := c67
                     (try (have c67b1 : decide (((rd x9_1 x14_2) == (rd x9_1 x16_3)) = false) = false := by simpa using c67))
                     (try (have c67b2 : (((rd x9_1 x14_2) == (rd x9_1 x16_3)) == false) = false := by simpa using c67))
                     (try (have c67b3 : ¬ (((rd x9_1 x14_2) == (rd x9_1 x16_3)) = false) := by simpa using c67))
                     clear c67
                     obtain rfl := Option.some.inj H
                     go_wp2_with (first | (go_at_call 22; (with_reducible refine (graph_Reach.calls k3 t102 _ _ t103 x16_3 t122 _ ?side1 ?side2 A42.out).mono ?_); (case side1 => repeat (first | exact (Kd.R_reads' HO_7.out).2.2 | (with_reducible refine Kd.C_alloc ?_ _) | (with_reducible refine Kd.C_drewN ?_ _) | (with_reducible refine Kd.C_drew ?_))); (case side2 => exact (Kd.R_reads' HO_7.out).2.1); rintro e w68 ⟨v123, rfl, ho0, hb⟩; replace HO_7 := am (Kd.R_below (by (with_reducible repeat (first | apply Ra | apply Rn | apply Rd)); exact HO_7.out) hb); replace HO_9 := am (Kd.R_below (by (with_reducible repeat (first | apply Ra | apply Rn | apply Rd)); exact HO_9.out) hb); have HO124 := am (Kd.R_lower (Kd.R_new' ho0 (Kd.R_lt (by (with_reducible repeat (first | apply Ra | apply Rn | apply Rd)); exact HO_15.out))) (below_size (by repeat (first | (with_reducible first | exact HB.out | apply lA | apply lN | apply lD) | exact HB.out)))); replace HO_15 := am (Kd.R_elder' (by (with_reducible repeat (first | apply Ra | apply Rn | apply Rd)); exact HO_15.out) (Kd.R_base ho0) hb); replace HB := am (below_step (by repeat (first | (with_reducible first | exact HB.out | apply lA | apply lN | apply lD) | exact HB.out)) hb); (try clear hb); (try clear hb2); (try clear hk); (try clear hi); (try clear ho0); obtain ⟨Ao69, co69, eo69⟩ := Kd.R_slice HO_15.out; subst eo69; obtain ⟨Ao70, co70, eo70⟩ := Kd.R_slice HO124.out; subst eo70; obtain ⟨Ao71, co71, eo71⟩ := Kd.R_slice HO_9.out; subst eo71; have p125 : 0 ≤ (x14_2 : Int) := of_decide_eq_true (by first | (with_reducible assumption) | assumption); have q125 : x14_2 < (x9_1.length : Int) := of_decide_eq_true (by first | (with_reducible assumption) | assumption); obtain ⟨ad125, e125, hx125_0⟩ := Kd.at_int (Kd.R_reads' HO_9.out).2.2 x14_2 p125 q125; cases e125; replace p125 := eq_true p125; replace q125 := eq_true q125; have p126 : 0 ≤ (x16_3 : Int) := of_decide_eq_true (by first | (with_reducible assumption) | assumption); have q126 : x16_3 < (x9_1.length : Int) := of_decide_eq_true (by first | (with_reducible assumption) | assumption); obtain ⟨ad126, e126, hx126_0⟩ := Kd.at_int (Kd.R_reads' HO_9.out).2.2 x16_3 p126 q126; obtain rfl : ad125 = ad126 := (by injection e126); replace p126 := eq_true p126; replace q126 := eq_true q126; have p127 : 0 ≤ (x16_3 : Int) := of_decide_eq_true (by first | (with_reducible assumption) | assumption); have q127 : x16_3 < (t119.length : Int) := of_decide_eq_true (by first | (with_reducible assumption) | assumption); obtain ⟨ad127, e127, hx127_0⟩ := Kd.at_bool (Kd.R_reads' HO_15.out).2.2 x16_3 p127 q127; (try rw [← Nbq50.out] at hx127_0); cases e127; replace p127 := eq_true p127; replace q127 := eq_true q127))
                     repeat (go_quiet (first | (go_at_call 22; (with_reducible refine (graph_Reach.calls k3 t102 _ _ t103 x16_3 t122 _ ?side1 ?side2 A42.out).mono ?_); (case side1 => repeat (first | exact (Kd.R_reads' HO_7.out).2.2 | (with_reducible refine Kd.C_alloc ?_ _) | (with_reducible refine Kd.C_drewN ?_ _) | (with_reducible refine Kd.C_drew ?_))); (case side2 => exact (Kd.R_reads' HO_7.out).2.1); rintro e w68 ⟨v123, rfl, ho0, hb⟩; replace HO_7 := am (Kd.R_below (by (with_reducible repeat (first | apply Ra | apply Rn | apply Rd)); exact HO_7.out) hb); replace HO_9 := am (Kd.R_below (by (with_reducible repeat (first | apply Ra | apply Rn | apply Rd)); exact HO_9.out) hb); have HO124 := am (Kd.R_lower (Kd.R_new' ho0 (Kd.R_lt (by (with_reducible repeat (first | apply Ra | apply Rn | apply Rd)); exact HO_15.out))) (below_size (by repeat (first | (with_reducible first | exact HB.out | apply lA | apply lN | apply lD) | exact HB.out)))); replace HO_15 := am (Kd.R_elder' (by (with_reducible repeat (first | apply Ra | apply Rn | apply Rd)); exact HO_15.out) (Kd.R_base ho0) hb); replace HB := am (below_step (by repeat (first | (with_reducible first | exact HB.out | apply lA | apply lN | apply lD) | exact HB.out)) hb); (try clear hb); (try clear hb2); (try clear hk); (try clear hi); (try clear ho0); obtain ⟨Ao69, co69, eo69⟩ := Kd.R_slice HO_15.out; subst eo69; obtain ⟨Ao70, co70, eo70⟩ := Kd.R_slice HO124.out; subst eo70; obtain ⟨Ao71, co71, eo71⟩ := Kd.R_slice HO_9.out; subst eo71; have p125 : 0 ≤ (x14_2 : Int) := of_decide_eq_true (by first | (with_reducible assumption) | assumption); have q125 : x14_2 < (x9_1.length : Int) := of_decide_eq_true (by first | (with_reducible assumption) | assumption); obtain ⟨ad125, e125, hx125_0⟩ := Kd.at_int (Kd.R_reads' HO_9.out).2.2 x14_2 p125 q125; cases e125; replace p125 := eq_true p125; replace q125 := eq_true q125; have p126 : 0 ≤ (x16_3 : Int) := of_decide_eq_true (by first | (with_reducible assumption) | assumption); have q126 : x16_3 < (x9_1.length : Int) := of_decide_eq_true (by first | (with_reducible assumption) | assumption); obtain ⟨ad126, e126, hx126_0⟩ := Kd.at_int (Kd.R_reads' HO_9.out).2.2 x16_3 p126 q126; obtain rfl : ad125 = ad126 := (by injection e126); replace p126 := eq_true p126; replace q126 := eq_true q126; have p127 : 0 ≤ (x16_3 : Int) := of_decide_eq_true (by first | (with_reducible assumption) | assumption); have q127 : x16_3 < (t119.length : Int) := of_decide_eq_true (by first | (with_reducible assumption) | assumption); obtain ⟨ad127, e127, hx127_0⟩ := Kd.at_bool (Kd.R_reads' HO_15.out).2.2 x16_3 p127 q127; (try rw [← Nbq50.out] at hx127_0); cases e127; replace p127 := eq_true p127; replace q127 := eq_true q127)); try go_wp2_with (first | (go_at_call 22; (with_reducible refine (graph_Reach.calls k3 t102 _ _ t103 x16_3 t122 _ ?side1 ?side2 A42.out).mono ?_); (case side1 => repeat (first | exact (Kd.R_reads' HO_7.out).2.2 | (with_reducible refine Kd.C_alloc ?_ _) | (with_reducible refine Kd.C_drewN ?_ _) | (with_reducible refine Kd.C_drew ?_))); (case side2 => exact (Kd.R_reads' HO_7.out).2.1); rintro e w68 ⟨v123, rfl, ho0, hb⟩; replace HO_7 := am (Kd.R_below (by (with_reducible repeat (first | apply Ra | apply Rn | apply Rd)); exact HO_7.out) hb); replace HO_9 := am (Kd.R_below (by (with_reducible repeat (first | apply Ra | apply Rn | apply Rd)); exact HO_9.out) hb); have HO124 := am (Kd.R_lower (Kd.R_new' ho0 (Kd.R_lt (by (with_reducible repeat (first | apply Ra | apply Rn | apply Rd)); exact HO_15.out))) (below_size (by repeat (first | (with_reducible first | exact HB.out | apply lA | apply lN | apply lD) | exact HB.out)))); replace HO_15 := am (Kd.R_elder' (by (with_reducible repeat (first | apply Ra | apply Rn | apply Rd)); exact HO_15.out) (Kd.R_base ho0) hb); replace HB := am (below_step (by repeat (first | (with_reducible first | exact HB.out | apply lA | apply lN | apply lD) | exact HB.out)) hb); (try clear hb); (try clear hb2); (try clear hk); (try clear hi); (try clear ho0); obtain ⟨Ao69, co69, eo69⟩ := Kd.R_slice HO_15.out; subst eo69; obtain ⟨Ao70, co70, eo70⟩ := Kd.R_slice HO124.out; subst eo70; obtain ⟨Ao71, co71, eo71⟩ := Kd.R_slice HO_9.out; subst eo71; have p125 : 0 ≤ (x14_2 : Int) := of_decide_eq_true (by first | (with_reducible assumption) | assumption); have q125 : x14_2 < (x9_1.length : Int) := of_decide_eq_true (by first | (with_reducible assumption) | assumption); obtain ⟨ad125, e125, hx125_0⟩ := Kd.at_int (Kd.R_reads' HO_9.out).2.2 x14_2 p125 q125; cases e125; replace p125 := eq_true p125; replace q125 := eq_true q125; have p126 : 0 ≤ (x16_3 : Int) := of_decide_eq_true (by first | (with_reducible assumption) | assumption); have q126 : x16_3 < (x9_1.length : Int) := of_decide_eq_true (by first | (with_reducible assumption) | assumption); obtain ⟨ad126, e126, hx126_0⟩ := Kd.at_int (Kd.R_reads' HO_9.out).2.2 x16_3 p126 q126; obtain rfl : ad125 = ad126 := (by injection e126); replace p126 := eq_true p126; replace q126 := eq_true q126; have p127 : 0 ≤ (x16_3 : Int) := of_decide_eq_true (by first | (with_reducible assumption) | assumption); have q127 : x16_3 < (t119.length : Int) := of_decide_eq_true (by first | (with_reducible assumption) | assumption); obtain ⟨ad127, e127, hx127_0⟩ := Kd.at_bool (Kd.R_reads' HO_15.out).2.2 x16_3 p127 q127; (try rw [← Nbq50.out] at hx127_0); cases e127; replace p127 := eq_true p127; replace q127 := eq_true q127)))
                     go_ret
                     exact ⟨by first | rfl | (simp [errW_none, errW_some] <;> rfl) | (simp [*, errW_none, errW_some] <;> rfl), by repeat (first | (with_reducible first | exact HB.out | apply lA | apply lN | apply lD) | exact HB.out)⟩
                    ·rw [if_neg c67] at H
                     have c67b0 : (((rd x9_1 x14_2) == (rd x9_1 x16_3)) != false) = false := by simpa using c67
                     (try (have c67b1 : decide (((rd x9_1 x14_2) == (rd x9_1 x16_3)) = false) = true := by simpa using c67))
                     (try (have c67b2 : (((rd x9_1 x14_2) == (rd x9_1 x16_3)) == false) = true := by simpa using c67))
                     clear c67
                     have H' := am H
                     clear H
                     go_wp2_with (first | (go_at_call 22; (with_reducible refine (graph_Reach.calls k3 t102 _ _ t103 x16_3 t122 _ ?side1 ?side2 A42.out).mono ?_); (case side1 => repeat (first | exact (Kd.R_reads' HO_7.out).2.2 | (with_reducible refine Kd.C_alloc ?_ _) | (with_reducible refine Kd.C_drewN ?_ _) | (with_reducible refine Kd.C_drew ?_))); (case side2 => exact (Kd.R_reads' HO_7.out).2.1); rintro e w72 ⟨v123, rfl, ho0, hb⟩; replace HO_7 := am (Kd.R_below (by (with_reducible repeat (first | apply Ra | apply Rn | apply Rd)); exact HO_7.out) hb); replace HO_9 := am (Kd.R_below (by (with_reducible repeat (first | apply Ra | apply Rn | apply Rd)); exact HO_9.out) hb); have HO124 := am (Kd.R_lower (Kd.R_new' ho0 (Kd.R_lt (by (with_reducible repeat (first | apply Ra | apply Rn | apply Rd)); exact HO_15.out))) (below_size (by repeat (first | (with_reducible first | exact HB.out | apply lA | apply lN | apply lD) | exact HB.out)))); replace HO_15 := am (Kd.R_elder' (by (with_reducible repeat (first | apply Ra | apply Rn | apply Rd)); exact HO_15.out) (Kd.R_base ho0) hb); replace HB := am (below_step (by repeat (first | (with_reducible first | exact HB.out | apply lA | apply lN | apply lD) | exact HB.out)) hb); (try clear hb); (try clear hb2); (try clear hk); (try clear hi); (try clear ho0); obtain ⟨Ao73, co73, eo73⟩ := Kd.R_slice HO_15.out; subst eo73; obtain ⟨Ao74, co74, eo74⟩ := Kd.R_slice HO124.out; subst eo74; obtain ⟨Ao75, co75, eo75⟩ := Kd.R_slice HO_9.out; subst eo75; have p125 : 0 ≤ (x14_2 : Int) := of_decide_eq_true (by first | (with_reducible assumption) | assumption); have q125 : x14_2 < (x9_1.length : Int) := of_decide_eq_true (by first | (with_reducible assumption) | assumption); obtain ⟨ad125, e125, hx125_0⟩ := Kd.at_int (Kd.R_reads' HO_9.out).2.2 x14_2 p125 q125; cases e125; replace p125 := eq_true p125; replace q125 := eq_true q125; have p126 : 0 ≤ (x16_3 : Int) := of_decide_eq_true (by first | (with_reducible assumption) | assumption); have q126 : x16_3 < (x9_1.length : Int) := of_decide_eq_true (by first | (with_reducible assumption) | assumption); obtain ⟨ad126, e126, hx126_0⟩ := Kd.at_int (Kd.R_reads' HO_9.out).2.2 x16_3 p126 q126; obtain rfl : ad125 = ad126 := (by injection e126); replace p126 := eq_true p126; replace q126 := eq_true q126; have p127 : 0 ≤ (x16_3 : Int) := of_decide_eq_true (by first | (with_reducible assumption) | assumption); have q127 : x16_3 < (t119.length : Int) := of_decide_eq_true (by first | (with_reducible assumption) | assumption); obtain ⟨ad127, e127, hx127_0⟩ := Kd.at_bool (Kd.R_reads' HO_15.out).2.2 x16_3 p127 q127; (try rw [← Nbq50.out] at hx127_0); cases e127; replace p127 := eq_true p127; replace q127 := eq_true q127; have p132 : 0 ≤ (x16_3 : Int) := of_decide_eq_true (by first | (with_reducible assumption) | assumption); have q132 : x16_3 < (t119.length : Int) := of_decide_eq_true (by first | (with_reducible assumption) | assumption); obtain ⟨ad132, e132, hx132_0⟩ := Kd.at_bool (Kd.R_reads' HO_15.out).2.2 x16_3 p132 q132; (try rw [← Nbq50.out] at hx132_0); obtain rfl : ad127 = ad132 := (by injection e132); replace p132 := eq_true p132; replace q132 := eq_true q132))
                     repeat (go_quiet (first | (go_at_call 22; (with_reducible refine (graph_Reach.calls k3 t102 _ _ t103 x16_3 t122 _ ?side1 ?side2 A42.out).mono ?_); (case side1 => repeat (first | exact (Kd.R_reads' HO_7.out).2.2 | (with_reducible refine Kd.C_alloc ?_ _) | (with_reducible refine Kd.C_drewN ?_ _) | (with_reducible refine Kd.C_drew ?_))); (case side2 => exact (Kd.R_reads' HO_7.out).2.1); rintro e w72 ⟨v123, rfl, ho0, hb⟩; replace HO_7 := am (Kd.R_below (by (with_reducible repeat (first | apply Ra | apply Rn | apply Rd)); exact HO_7.out) hb); replace HO_9 := am (Kd.R_below (by (with_reducible repeat (first | apply Ra | apply Rn | apply Rd)); exact HO_9.out) hb); have HO124 := am (Kd.R_lower (Kd.R_new' ho0 (Kd.R_lt (by (with_reducible repeat (first | apply Ra | apply Rn | apply Rd)); exact HO_15.out))) (below_size (by repeat (first | (with_reducible first | exact HB.out | apply lA | apply lN | apply lD) | exact HB.out)))); replace HO_15 := am (Kd.R_elder' (by (with_reducible repeat (first | apply Ra | apply Rn | apply Rd)); exact HO_15.out) (Kd.R_base ho0) hb); replace HB := am (below_step (by repeat (first | (with_reducible first | exact HB.out | apply lA | apply lN | apply lD) | exact HB.out)) hb); (try clear hb); (try clear hb2); (try clear hk); (try clear hi); (try clear ho0); obtain ⟨Ao73, co73, eo73⟩ := Kd.R_slice HO_15.out; subst eo73; obtain ⟨Ao74, co74, eo74⟩ := Kd.R_slice HO124.out; subst eo74; obtain ⟨Ao75, co75, eo75⟩ := Kd.R_slice HO_9.out; subst eo75; have p125 : 0 ≤ (x14_2 : Int) := of_decide_eq_true (by first | (with_reducible assumption) | assumption); have q125 : x14_2 < (x9_1.length : Int) := of_decide_eq_true (by first | (with_reducible assumption) | assumption); obtain ⟨ad125, e125, hx125_0⟩ := Kd.at_int (Kd.R_reads' HO_9.out).2.2 x14_2 p125 q125; cases e125; replace p125 := eq_true p125; replace q125 := eq_true q125; have p126 : 0 ≤ (x16_3 : Int) := of_decide_eq_true (by first | (with_reducible assumption) | assumption); have q126 : x16_3 < (x9_1.length : Int) := of_decide_eq_true (by first | (with_reducible assumption) | assumption); obtain ⟨ad126, e126, hx126_0⟩ := Kd.at_int (Kd.R_reads' HO_9.out).2.2 x16_3 p126 q126; obtain rfl : ad125 = ad126 := (by injection e126); replace p126 := eq_true p126; replace q126 := eq_true q126; have p127 : 0 ≤ (x16_3 : Int) := of_decide_eq_true (by first | (with_reducible assumption) | assumption); have q127 : x16_3 < (t119.length : Int) := of_decide_eq_true (by first | (with_reducible assumption) | assumption); obtain ⟨ad127, e127, hx127_0⟩ := Kd.at_bool (Kd.R_reads' HO_15.out).2.2 x16_3 p127 q127; (try rw [← Nbq50.out] at hx127_0); cases e127; replace p127 := eq_true p127; replace q127 := eq_true q127; have p132 : 0 ≤ (x16_3 : Int) := of_decide_eq_true (by first | (with_reducible assumption) | assumption); have q132 : x16_3 < (t119.length : Int) := of_decide_eq_true (by first | (with_reducible assumption) | assumption); obtain ⟨ad132, e132, hx132_0⟩ := Kd.at_bool (Kd.R_reads' HO_15.out).2.2 x16_3 p132 q132; (try rw [← Nbq50.out] at hx132_0); obtain rfl : ad127 = ad132 := (by injection e132); replace p132 := eq_true p132; replace q132 := eq_true q132)); try go_wp2_with (first | (go_at_call 22; (with_reducible refine (graph_Reach.calls k3 t102 _ _ t103 x16_3 t122 _ ?side1 ?side2 A42.out).mono ?_); (case side1 => repeat (first | exact (Kd.R_reads' HO_7.out).2.2 | (with_reducible refine Kd.C_alloc ?_ _) | (with_reducible refine Kd.C_drewN ?_ _) | (with_reducible refine Kd.C_drew ?_))); (case side2 => exact (Kd.R_reads' HO_7.out).2.1); rintro e w72 ⟨v123, rfl, ho0, hb⟩; replace HO_7 := am (Kd.R_below (by (with_reducible repeat (first | apply Ra | apply Rn | apply Rd)); exact HO_7.out) hb); replace HO_9 := am (Kd.R_below (by (with_reducible repeat (first | apply Ra | apply Rn | apply Rd)); exact HO_9.out) hb); have HO124 := am (Kd.R_lower (Kd.R_new' ho0 (Kd.R_lt (by (with_reducible repeat (first | apply Ra | apply Rn | apply Rd)); exact HO_15.out))) (below_size (by repeat (first | (with_reducible first | exact HB.out | apply lA | apply lN | apply lD) | exact HB.out)))); replace HO_15 := am (Kd.R_elder' (by (with_reducible repeat (first | apply Ra | apply Rn | apply Rd)); exact HO_15.out) (Kd.R_base ho0) hb); replace HB := am (below_step (by repeat (first | (with_reducible first | exact HB.out | apply lA | apply lN | apply lD) | exact HB.out)) hb); (try clear hb); (try clear hb2); (try clear hk); (try clear hi); (try clear ho0); obtain ⟨Ao73, co73, eo73⟩ := Kd.R_slice HO_15.out; subst eo73; obtain ⟨Ao74, co74, eo74⟩ := Kd.R_slice HO124.out; subst eo74; obtain ⟨Ao75, co75, eo75⟩ := Kd.R_slice HO_9.out; subst eo75; have p125 : 0 ≤ (x14_2 : Int) := of_decide_eq_true (by first | (with_reducible assumption) | assumption); have q125 : x14_2 < (x9_1.length : Int) := of_decide_eq_true (by first | (with_reducible assumption) | assumption); obtain ⟨ad125, e125, hx125_0⟩ := Kd.at_int (Kd.R_reads' HO_9.out).2.2 x14_2 p125 q125; cases e125; replace p125 := eq_true p125; replace q125 := eq_true q125; have p126 : 0 ≤ (x16_3 : Int) := of_decide_eq_true (by first | (with_reducible assumption) | assumption); have q126 : x16_3 < (x9_1.length : Int) := of_decide_eq_true (by first | (with_reducible assumption) | assumption); obtain ⟨ad126, e126, hx126_0⟩ := Kd.at_int (Kd.R_reads' HO_9.out).2.2 x16_3 p126 q126; obtain rfl : ad125 = ad126 := (by injection e126); replace p126 := eq_true p126; replace q126 := eq_true q126; have p127 : 0 ≤ (x16_3 : Int) := of_decide_eq_true (by first | (with_reducible assumption) | assumption); have q127 : x16_3 < (t119.length : Int) := of_decide_eq_true (by first | (with_reducible assumption) | assumption); obtain ⟨ad127, e127, hx127_0⟩ := Kd.at_bool (Kd.R_reads' HO_15.out).2.2 x16_3 p127 q127; (try rw [← Nbq50.out] at hx127_0); cases e127; replace p127 := eq_true p127; replace q127 := eq_true q127; have p132 : 0 ≤ (x16_3 : Int) := of_decide_eq_true (by first | (with_reducible assumption) | assumption); have q132 : x16_3 < (t119.length : Int) := of_decide_eq_true (by first | (with_reducible assumption) | assumption); obtain ⟨ad132, e132, hx132_0⟩ := Kd.at_bool (Kd.R_reads' HO_15.out).2.2 x16_3 p132 q132; (try rw [← Nbq50.out] at hx132_0); obtain rfl : ad127 = ad132 := (by injection e132); replace p132 := eq_true p132; replace q132 := eq_true q132)))
                     go_roundg k3
                     case measure => have := HK1.out; have := HK2.out; have := HK3.out; omega
                     case rel => exact ⟨(wrap64 (x16_3 + 1)), (by first | rfl | (simp; done) | (simp [*]; done)), H', ⟨by have := HK1.out; have := HK2.out; have := HK3.out; omega⟩, ⟨by (with_reducible repeat (first | apply Ra | apply Rn | apply Rd)); exact HO_7.out⟩, ⟨by (with_reducible repeat (first | apply Ra | apply Rn | apply Rd)); exact HO_9.out⟩, ⟨by (with_reducible repeat (first | apply Ra | apply Rn | apply Rd)); exact Kd.R_mono HO_15.out (fun _ hk => trivial)⟩, ⟨by repeat (first | (with_reducible first | exact HB.out | apply lA | apply lN | apply lD) | exact HB.out)⟩⟩
                  ·rw [if_neg c49] at H
                   exact absurd H (by simp)
                 ·rw [if_neg c48] at H
                  exact absurd H (by simp)
                ·rw [if_neg c47] at H
                 exact absurd H (by simp)
               ·rw [if_neg c46] at H
                exact absurd H (by simp)
              ·rw [if_neg c45] at H
               exact absurd H (by simp)
             ·rw [if_neg c44] at H
              have c44b0 : ((t122.length : Int) == t102) = false := beq_eq_false_iff_ne.mpr c44
              have c44b1 : ((t122.length : Int) != t102) = true := bne_iff_ne.mpr c44
              obtain rfl := Option.some.inj H
              go_wp2_with (first | (go_at_call 22; (with_reducible refine (graph_Reach.calls k3 t102 _ _ t103 x16_3 t122 _ ?side1 ?side2 A42.out).mono ?_); (case side1 => repeat (first | exact (Kd.R_reads' HO_7.out).2.2 | (with_reducible refine Kd.C_alloc ?_ _) | (with_reducible refine Kd.C_drewN ?_ _) | (with_reducible refine Kd.C_drew ?_))); (case side2 => exact (Kd.R_reads' HO_7.out).2.1); rintro e w76 ⟨v123, rfl, ho0, hb⟩; replace HO_7 := am (Kd.R_below (by (with_reducible repeat (first | apply Ra | apply Rn | apply Rd)); exact HO_7.out) hb); replace HO_9 := am (Kd.R_below (by (with_reducible repeat (first | apply Ra | apply Rn | apply Rd)); exact HO_9.out) hb); have HO124 := am (Kd.R_lower (Kd.R_new' ho0 (Kd.R_lt (by (with_reducible repeat (first | apply Ra | apply Rn | apply Rd)); exact HO_15.out))) (below_size (by repeat (first | (with_reducible first | exact HB.out | apply lA | apply lN | apply lD) | exact HB.out)))); replace HO_15 := am (Kd.R_elder' (by (with_reducible repeat (first | apply Ra | apply Rn | apply Rd)); exact HO_15.out) (Kd.R_base ho0) hb); replace HB := am (below_step (by repeat (first | (with_reducible first | exact HB.out | apply lA | apply lN | apply lD) | exact HB.out)) hb); (try clear hb); (try clear hb2); (try clear hk); (try clear hi); (try clear ho0); obtain ⟨Ao77, co77, eo77⟩ := Kd.R_slice HO_15.out; subst eo77; obtain ⟨Ao78, co78, eo78⟩ := Kd.R_slice HO124.out; subst eo78))
              repeat (go_quiet (first | (go_at_call 22; (with_reducible refine (graph_Reach.calls k3 t102 _ _ t103 x16_3 t122 _ ?side1 ?side2 A42.out).mono ?_); (case side1 => repeat (first | exact (Kd.R_reads' HO_7.out).2.2 | (with_reducible refine Kd.C_alloc ?_ _) | (with_reducible refine Kd.C_drewN ?_ _) | (with_reducible refine Kd.C_drew ?_))); (case side2 => exact (Kd.R_reads' HO_7.out).2.1); rintro e w76 ⟨v123, rfl, ho0, hb⟩; replace HO_7 := am (Kd.R_below (by (with_reducible repeat (first | apply Ra | apply Rn | apply Rd)); exact HO_7.out) hb); replace HO_9 := am (Kd.R_below (by (with_reducible repeat (first | apply Ra | apply Rn | apply Rd)); exact HO_9.out) hb); have HO124 := am (Kd.R_lower (Kd.R_new' ho0 (Kd.R_lt (by (with_reducible repeat (first | apply Ra | apply Rn | apply Rd)); exact HO_15.out))) (below_size (by repeat (first | (with_reducible first | exact HB.out | apply lA | apply lN | apply lD) | exact HB.out)))); replace HO_15 := am (Kd.R_elder' (by (with_reducible repeat (first | apply Ra | apply Rn | apply Rd)); exact HO_15.out) (Kd.R_base ho0) hb); replace HB := am (below_step (by repeat (first | (with_reducible first | exact HB.out | apply lA | apply lN | apply lD) | exact HB.out)) hb); (try clear hb); (try clear hb2); (try clear hk); (try clear hi); (try clear ho0); obtain ⟨Ao77, co77, eo77⟩ := Kd.R_slice HO_15.out; subst eo77; obtain ⟨Ao78, co78, eo78⟩ := Kd.R_slice HO124.out; subst eo78)); try go_wp2_with (first | (go_at_call 22; (with_reducible refine (graph_Reach.calls k3 t102 _ _ t103 x16_3 t122 _ ?side1 ?side2 A42.out).mono ?_); (case side1 => repeat (first | exact (Kd.R_reads' HO_7.out).2.2 | (with_reducible refine Kd.C_alloc ?_ _) | (with_reducible refine Kd.C_drewN ?_ _) | (with_reducible refine Kd.C_drew ?_))); (case side2 => exact (Kd.R_reads' HO_7.out).2.1); rintro e w76 ⟨v123, rfl, ho0, hb⟩; replace HO_7 := am (Kd.R_below (by (with_reducible repeat (first | apply Ra | apply Rn | apply Rd)); exact HO_7.out) hb); replace HO_9 := am (Kd.R_below (by (with_reducible repeat (first | apply Ra | apply Rn | apply Rd)); exact HO_9.out) hb); have HO124 := am (Kd.R_lower (Kd.R_new' ho0 (Kd.R_lt (by (with_reducible repeat (first | apply Ra | apply Rn | apply Rd)); exact HO_15.out))) (below_size (by repeat (first | (with_reducible first | exact HB.out | apply lA | apply lN | apply lD) | exact HB.out)))); replace HO_15 := am (Kd.R_elder' (by (with_reducible repeat (first | apply Ra | apply Rn | apply Rd)); exact HO_15.out) (Kd.R_base ho0) hb); replace HB := am (below_step (by repeat (first | (with_reducible first | exact HB.out | apply lA | apply lN | apply lD) | exact HB.out)) hb); (try clear hb); (try clear hb2); (try clear hk); (try clear hi); (try clear ho0); obtain ⟨Ao77, co77, eo77⟩ := Kd.R_slice HO_15.out; subst eo77; obtain ⟨Ao78, co78, eo78⟩ := Kd.R_slice HO124.out; subst eo78)))
              go_ret
              exact ⟨by first | rfl | (simp [errW_none, errW_some] <;> rfl) | (simp [*, errW_none, errW_some] <;> rfl), by repeat (first | (with_reducible first | exact HB.out | apply lA | apply lN | apply lD) | exact HB.out)⟩
            ·rw [if_neg c43] at H
             have c43b0 : ((t119.length : Int) == t102) = false := beq_eq_false_iff_ne.mpr c43
             have c43b1 : ((t119.length : Int) != t102) = true := bne_iff_ne.mpr c43
             obtain rfl := Option.some.inj H
             go_wp2_with (first | (go_at_call 22; (with_reducible refine (graph_Reach.calls k3 t102 _ _ t103 x16_3 t122 _ ?side1 ?side2 A42.out).mono ?_); (case side1 => repeat (first | exact (Kd.R_reads' HO_7.out).2.2 | (with_reducible refine Kd.C_alloc ?_ _) | (with_reducible refine Kd.C_drewN ?_ _) | (with_reducible refine Kd.C_drew ?_))); (case side2 => exact (Kd.R_reads' HO_7.out).2.1); rintro e w79 ⟨v123, rfl, ho0, hb⟩; replace HO_7 := am (Kd.R_below (by (with_reducible repeat (first | apply Ra | apply Rn | apply Rd)); exact HO_7.out) hb); replace HO_9 := am (Kd.R_below (by (with_reducible repeat (first | apply Ra | apply Rn | apply Rd)); exact HO_9.out) hb); have HO124 := am (Kd.R_lower (Kd.R_new' ho0 (Kd.R_lt (by (with_reducible repeat (first | apply Ra | apply Rn | apply Rd)); exact HO_15.out))) (below_size (by repeat (first | (with_reducible first | exact HB.out | apply lA | apply lN | apply lD) | exact HB.out)))); replace HO_15 := am (Kd.R_elder' (by (with_reducible repeat (first | apply Ra | apply Rn | apply Rd)); exact HO_15.out) (Kd.R_base ho0) hb); replace HB := am (below_step (by repeat (first | (with_reducible first | exact HB.out | apply lA | apply lN | apply lD) | exact HB.out)) hb); (try clear hb); (try clear hb2); (try clear hk); (try clear hi); (try clear ho0); obtain ⟨Ao80, co80, eo80⟩ := Kd.R_slice HO_15.out; subst eo80))
             repeat (go_quiet (first | (go_at_call 22; (with_reducible refine (graph_Reach.calls k3 t102 _ _ t103 x16_3 t122 _ ?side1 ?side2 A42.out).mono ?_); (case side1 => repeat (first | exact (Kd.R_reads' HO_7.out).2.2 | (with_reducible refine Kd.C_alloc ?_ _) | (with_reducible refine Kd.C_drewN ?_ _) | (with_reducible refine Kd.C_drew ?_))); (case side2 => exact (Kd.R_reads' HO_7.out).2.1); rintro e w79 ⟨v123, rfl, ho0, hb⟩; replace HO_7 := am (Kd.R_below (by (with_reducible repeat (first | apply Ra | apply Rn | apply Rd)); exact HO_7.out) hb); replace HO_9 := am (Kd.R_below (by (with_reducible repeat (first | apply Ra | apply Rn | apply Rd)); exact HO_9.out) hb); have HO124 := am (Kd.R_lower (Kd.R_new' ho0 (Kd.R_lt (by (with_reducible repeat (first | apply Ra | apply Rn | apply Rd)); exact HO_15.out))) (below_size (by repeat (first | (with_reducible first | exact HB.out | apply lA | apply lN | apply lD) | exact HB.out)))); replace HO_15 := am (Kd.R_elder' (by (with_reducible repeat (first | apply Ra | apply Rn | apply Rd)); exact HO_15.out) (Kd.R_base ho0) hb); replace HB := am (below_step (by repeat (first | (with_reducible first | exact HB.out | apply lA | apply lN | apply lD) | exact HB.out)) hb); (try clear hb); (try clear hb2); (try clear hk); (try clear hi); (try clear ho0); obtain ⟨Ao80, co80, eo80⟩ := Kd.R_slice HO_15.out; subst eo80)); try go_wp2_with (first | (go_at_call 22; (with_reducible refine (graph_Reach.calls k3 t102 _ _ t103 x16_3 t122 _ ?side1 ?side2 A42.out).mono ?_); (case side1 => repeat (first | exact (Kd.R_reads' HO_7.out).2.2 | (with_reducible refine Kd.C_alloc ?_ _) | (with_reducible refine Kd.C_drewN ?_ _) | (with_reducible refine Kd.C_drew ?_))); (case side2 => exact (Kd.R_reads' HO_7.out).2.1); rintro e w79 ⟨v123, rfl, ho0, hb⟩; replace HO_7 := am (Kd.R_below (by (with_reducible repeat (first | apply Ra | apply Rn | apply Rd)); exact HO_7.out) hb); replace HO_9 := am (Kd.R_below (by (with_reducible repeat (first | apply Ra | apply Rn | apply Rd)); exact HO_9.out) hb); have HO124 := am (Kd.R_lower (Kd.R_new' ho0 (Kd.R_lt (by (with_reducible repeat (first | apply Ra | apply Rn | apply Rd)); exact HO_15.out))) (below_size (by repeat (first | (with_reducible first | exact HB.out | apply lA | apply lN | apply lD) | exact HB.out)))); replace HO_15 := am (Kd.R_elder' (by (with_reducible repeat (first | apply Ra | apply Rn | apply Rd)); exact HO_15.out) (Kd.R_base ho0) hb); replace HB := am (below_step (by repeat (first | (with_reducible first | exact HB.out | apply lA | apply lN | apply lD) | exact HB.out)) hb); (try clear hb); (try clear hb2); (try clear hk); (try clear hi); (try clear ho0); obtain ⟨Ao80, co80, eo80⟩ := Kd.R_slice HO_15.out; subst eo80)))
             go_ret
             exact ⟨by first | rfl | (simp [errW_none, errW_some] <;> rfl) | (simp [*, errW_none, errW_some] <;> rfl), by repeat (first | (with_reducible first | exact HB.out | apply lA | apply lN | apply lD) | exact HB.out)⟩
           ·rw [if_neg c41] at H
            have c41b0 : decide (x16_3 < t102) = false := decide_eq_false c41
            clear c41
            have H' := am H
            clear H
            go_wp2
            repeat (go_quiet (fail); try go_wp2)
            go_roundg k3
            case measure => have := HK1.out; have := HK2.out; have := HK3.out; omega
            case rel => exact ⟨(wrap64 (x14_2 + 1)), (by first | rfl | (simp; done) | (simp [*]; done)), H', ⟨by have := HK1.out; have := HK2.out; have := HK3.out; omega⟩, ⟨by (with_reducible repeat (first | apply Ra | apply Rn | apply Rd)); exact HO_7.out⟩, ⟨by (with_reducible repeat (first | apply Ra | apply Rn | apply Rd)); exact HO_9.out⟩, ⟨by repeat (first | (with_reducible first | exact HB.out | apply lA | apply lN | apply lD) | exact HB.out)⟩⟩
        ·rw [if_neg c38] at H
         have c38b0 : decide (x14_2 < t102) = false := decide_eq_false c38
         clear c38
         by_cases c81 : t101 = true
         ·subst c81
          have H1 : (some (x10_1 == t102)) = some r := by rw [if_pos rfl] at H; exact H
          clear H
          have H := H1
          clear H1
          obtain rfl := Option.some.inj H
          go_wp2
          repeat (go_quiet (fail); try go_wp2)
          go_ret
          exact ⟨by first | rfl | (simp [errW_none, errW_some] <;> rfl) | (simp [*, errW_none, errW_some] <;> rfl), by repeat (first | (with_reducible first | exact HB.out | apply lA | apply lN | apply lD) | exact HB.out)⟩
         ·replace c81 := Bool.eq_false_iff.mpr c81
          subst c81
          have H1 : (some false) = some r := by rw [if_neg (show ¬ (false = true) by decide)] at H; exact H
          clear H
          have H := H1
          clear H1
          obtain rfl := Option.some.inj H
          go_wp2
          repeat (go_quiet (fail); try go_wp2)
          go_ret
          exact ⟨by first | rfl | (simp [errW_none, errW_some] <;> rfl) | (simp [*, errW_none, errW_some] <;> rfl), by repeat (first | (with_reducible first | exact HB.out | apply lA | apply lN | apply lD) | exact HB.out)⟩
  ·rw [if_neg c7] at H
   exact absurd H (by simp)
 ·rw [if_neg c6] at H
  exact absurd H (by simp)
end Go.Proofs.Ytmlhnjonmjmhdaa.H
/- GraphParts: each node is in one part; nodes are in one part just if each reaches the other one; parts rise, and no edge leads to a part behind -/
namespace Go.Proofs.Ytmlhnjonmjmhdaa.H
open Go.RowKit Go.Proofs.YtmlhnjonmjmhdaaW.PrintWords
theorem mem_partL {rows : List (List Int)} (hok : okR rows) {x : Nat} (hx : x < rows.length) {v : Int} : v ∈ partL (tabL rows) rows.length x ↔ ∃ y : Nat, v = (y : Int) ∧ y < rows.length ∧ Eqv rows x y := by
  unfold partL
  rw [List.mem_map]
  constructor
  · rintro ⟨y, hy, rfl⟩
    obtain ⟨h1, h2⟩ := List.mem_filter.1 hy
    have h1 := List.mem_range.1 h1
    exact ⟨y, rfl, h1, (part_iff hok hx h1).1 h2⟩
  · rintro ⟨y, rfl, h1, h2⟩
    exact ⟨y, List.mem_filter.2 ⟨List.mem_range.2 h1, (part_iff hok hx h1).2 h2⟩, rfl⟩
theorem partL_rise (tt : List (List Bool)) (n x : Nat) : (partL tt n x).Pairwise (· < ·) := by
  unfold partL
  rw [List.pairwise_map]
  refine (List.Pairwise.filter _ List.pairwise_lt_range).imp ?_
  intro a b h
  exact Int.ofNat_lt.2 h
/-- of each node of the first parts it is told in which it is -/
structure OI (rows : List (List Int)) (xs : List Nat) (i : Nat) (row : List Int) (of : List Int) : Prop where
  len : of.length = rows.length
  old : ∀ (j x y : Nat), j < i → xs[j]? = some x → y < rows.length → Eqv rows x y → of.getD y 0 = (j : Int)
  new : ∀ v ∈ row, of.getD v.toNat 0 = (i : Int)
theorem parts_l1 {n : Nat} {es : List IPair} {xs : List Nat} {p : List (List Int)} (hn : n ≤ 1000) (hok : okR (rws n es)) (hc : Cls (rws n es) xs) (hp : p = xs.map (partL (tabL (rws n es)) n)) {i x : Nat} (hx : xs[i]? = some x) {c0 : Nat} (hc0 : c0 + (partL (tabL (rws n es)) n x).length ≤ 100000)
    (next : ∀ of, OI (rws n es) xs (i + 1) [] of → Ev (fun k => lambrequinlaw10_GraphParts.l0 k true (n : Int) es p of ((c0 + (partL (tabL (rws n es)) n x).length : Nat) : Int) ((i + 1 : Nat) : Int)) true) :
    ∀ (d : List Int) (j : Nat) (of : List Int), (partL (tabL (rws n es)) n x).drop j = d → j ≤ (partL (tabL (rws n es)) n x).length → OI (rws n es) xs i ((partL (tabL (rws n es)) n x).take j) of → Ev (fun k => lambrequinlaw10_GraphParts.l1 k true (n : Int) es p of ((c0 + j : Nat) : Int) (i : Int) (j : Int)) true := by
  have hlen := rws_len n es
  have hxl := hc.lt x (List.mem_of_getElem? hx)
  have hil : i < xs.length := (List.getElem?_eq_some_iff.1 hx).1
  have hpl : p.length = xs.length := by rw [hp, List.length_map]
  have hpi : rd_L19 p (i : Int) = partL (tabL (rws n es)) n x := by
    refine getD_at (n := i) ?_ _
    rw [hp, List.getElem?_map, hx]
    rfl
  have hmem : ∀ v : Int, v ∈ partL (tabL (rws n es)) n x ↔ ∃ y : Nat, v = (y : Int) ∧ y < n ∧ Eqv (rws n es) x y := by
    intro v
    have := mem_partL hok hxl (v := v)
    rw [hlen] at this
    exact this
  have hrise := partL_rise (tabL (rws n es)) n x
  generalize hrow : partL (tabL (rws n es)) n x = row at *
  have hxs : xs.length ≤ 1000 := by
    have := few_le (fun a b => a = b) xs (List.range n) (fun z hz => ⟨z, List.mem_range.2 (by have := hc.lt z hz; omega), rfl⟩) (hc.apart.imp (fun {a b} hab y hy => hab (by rw [hy.1, hy.2]; exact ⟨.refl, .refl⟩)))
    rw [List.length_range] at this
    omega
  intro d
  induction d with
  | nil =>
    intro j of hd hj hv
    have hjl := drop_end hd
    have hjl' : j = row.length := by omega
    rw [hjl', List.take_length] at hv
    have hv2 : OI (rws n es) xs (i + 1) [] of := by
      refine ⟨hv.len, ?_, fun v hv => by cases hv⟩
      intro j' x' y hj' hx' hy he
      by_cases e : j' = i
      · rw [e] at hx' ⊢
        rw [hx] at hx'
        cases hx'
        have := hv.new (y : Int) ((hmem _).2 ⟨y, rfl, by omega, he⟩)
        rwa [Int.toNat_natCast] at this
      · exact hv.old j' x' y (by omega) hx' hy he
    refine Ev.step (fun k => by rw [lambrequinlaw10_GraphParts.l1]) ?_
    rw [hpi, wrap_up (n := i) (by omega), hjl']
    refine Ev.pos (by omega) (Ev.pos (by omega) (Ev.neg (by omega) ?_))
    exact next of hv2
  | cons y d ih =>
    intro j of hd hj hv
    have hrl : row.length ≤ 100000 := by omega
    obtain ⟨h1, h2, h3, h4, h5⟩ := drop_more hd (by omega)
    have e : rd row (j : Int) = y := h3 _
    have hy : row[j]? = some y := by
      have := congrArg (fun z => z[0]?) hd
      simpa using this
    have hjr : j < row.length := by clear h5; omega
    obtain ⟨z, rfl, hz, hez⟩ := (hmem y).1 (List.mem_of_getElem? hy)
    have ol := hv.len
    have hv2 : OI (rws n es) xs i (row.take (j + 1)) (of.set z (i : Int)) := by
      refine ⟨by rw [List.length_set]; exact ol, ?_, ?_⟩
      · intro j' x' y' hj' hx' hy' he
        have hne : z ≠ y' := by
          rintro rfl
          have := (List.pairwise_iff_getElem.1 hc.apart) j' i (List.getElem?_eq_some_iff.1 hx').1 hil hj'
          rw [(List.getElem?_eq_some_iff.1 hx').2, (List.getElem?_eq_some_iff.1 hx).2] at this
          exact this (he.trans hez.symm)
        rw [getD_set_ne _ _ _ _ hne]
        exact hv.old j' x' y' hj' hx' hy' he
      · intro v hvm
        rw [take_snoc hy] at hvm
        by_cases ez : z = v.toNat
        · rw [← ez, List.getD_eq_getElem?_getD, List.getElem?_set_self (by rw [ol]; omega)]
          rfl
        · rw [getD_set_ne _ _ _ _ ez]
          rcases List.mem_append.1 hvm with hvm | hvm
          · exact hv.new v hvm
          · rw [List.mem_singleton.1 hvm] at ez
            exact absurd (Int.toNat_natCast z).symm ez
    have next' := ih (j + 1) _ h4 (by clear h5; omega) hv2
    have e6 : wrap64 (((c0 + j : Nat) : Int) + 1) = ((c0 + (j + 1) : Nat) : Int) := by clear h5; unfold wrap64; omega
    have e7 : ((z : Nat) : Int).toNat = z := Int.toNat_natCast z
    refine Ev.step (fun k => by rw [lambrequinlaw10_GraphParts.l1]) ?_
    rw [hpi, e, h5, e6, e7]
    clear h5 e6
    refine Ev.pos (by omega) (Ev.pos (by omega) (Ev.pos h1 (Ev.pos h2 (Ev.neg (by omega) (Ev.neg (by omega) ?_)))))
    by_cases hj0 : (j : Int) > 0
    · have e8 : wrap64 ((j : Int) - 1) = ((j - 1 : Nat) : Int) := by unfold wrap64; omega
      have e9 : rd row ((j - 1 : Nat) : Int) = row[j - 1]'(by clear e8; omega) := getD_at (List.getElem?_eq_getElem _) _
      have e10 : row[j] = ((z : Nat) : Int) := (List.getElem?_eq_some_iff.1 hy).2
      have hlt := (List.pairwise_iff_getElem.1 hrise) (j - 1) j (by clear e8; omega) hjr (by clear e8; omega)
      rw [e10] at hlt
      refine Ev.pos hj0 ?_
      rw [e8, e9]
      clear e8
      exact Ev.pos (by omega) (Ev.pos (by omega) (Ev.neg (by omega) (Ev.pos (by omega) (Ev.pos (by omega) next'))))
    · exact Ev.neg hj0 (Ev.pos (by omega) (Ev.pos (by omega) next'))
theorem parts_l3 {n x : Nat} {es : List IPair} {xs : List Nat} {of : List Int} {c : Int} (hn : n ≤ 1000) (hl : es.length ≤ 1000000) (hb : cleanBad (n : Int) es = false) (hc : Cls (rws n es) xs) (ho : OI (rws n es) xs xs.length [] of) (hx : x < n)
    (next : Ev (fun k => lambrequinlaw10_GraphParts.l2 k true (n : Int) es of c ((x + 1 : Nat) : Int)) true) :
    ∀ (m y : Nat), y + m = n → Ev (fun k => lambrequinlaw10_GraphParts.l3 k true (n : Int) es of c (x : Int) (reachL (rws n es) x) (y : Int)) true
  | 0, y, h => by
    refine Ev.step (fun k => by rw [lambrequinlaw10_GraphParts.l3]) ?_
    refine Ev.neg (by omega) ?_
    rw [wrap_up (by omega)]
    exact next
  | m + 1, y, h => by
    have hy : y < n := by omega
    have next' := parts_l3 hn hl hb hc ho hx next m (y + 1) (by omega)
    have l1 := reach_len hb hx
    have l2 := reach_len hb hy
    have hlen := rws_len n es
    have ol := ho.len
    have ew : wrap64 ((y : Int) + 1) = ((y + 1 : Nat) : Int) := wrap_up (by omega)
    have rdg : ∀ z : Nat, rd of (z : Int) = of.getD z 0 := fun z => by show of.getD ((z : Int)).toNat 0 = _; rw [Int.toNat_natCast]
    -- where x and y are
    have at_ : ∀ z, z < n → ∃ (j u : Nat), xs[j]? = some u ∧ Eqv (rws n es) u z ∧ of.getD z 0 = (j : Int) := by
      intro z hz
      obtain ⟨u, hu, he⟩ := hc.all z (by omega)
      obtain ⟨j, hj⟩ := List.getElem?_of_mem hu
      exact ⟨j, u, hj, he, ho.old j u z (List.getElem?_eq_some_iff.1 hj).1 hj (by omega) he⟩
    obtain ⟨jx, ux, hjx, hex, hox⟩ := at_ x hx
    obtain ⟨jy, uy, hjy, hey, hoy⟩ := at_ y hy
    have hiff : of.getD x 0 = of.getD y 0 ↔ Eqv (rws n es) x y := by
      constructor
      · intro e
        rw [hox, hoy] at e
        have e : jx = jy := by omega
        rw [e, hjy] at hjx
        cases hjx
        exact hex.symm.trans hey
      · intro he
        rw [hox, ho.old jx ux y (List.getElem?_eq_some_iff.1 hjx).1 hjx (by omega) (hex.trans he)]
    have hord : Rch (rws n es) x y → of.getD y 0 ≤ of.getD x 0 := by
      intro hr
      rcases hc.ord jx ux y hjx (by omega) (hex.1.trans hr) with h3 | ⟨i, z, hi, hz, he⟩
      · exact Int.le_of_eq (hiff.2 ⟨hr, h3.trans hex.1⟩).symm
      · rw [hox, ho.old i z y (List.getElem?_eq_some_iff.1 hz).1 hz (by omega) he]
        omega
    refine Ev.step (fun k => by rw [lambrequinlaw10_GraphParts.l3]) ?_
    rw [rdg x, rdg y, ew]
    clear ew
    refine Ev.pos (by omega) (Ev.bind (Reach_ev hl hb hy) (Ev.pos (by omega) (Ev.pos (by omega) (Ev.pos (by omega) (Ev.pos (by omega) (Ev.pos (by omega) (Ev.pos (by omega) (Ev.pos (by omega) ?_))))))))
    by_cases hr : rdOf false (reachL (rws n es) x) (y : Int) = true
    · have hr' := (reach_true hb hx hy).1 hr
      refine Ev.pos hr (Ev.pos (by omega) (Ev.neg ?_ (Ev.neg (by have := hord hr'; omega) next')))
      by_cases hq : rdOf false (reachL (rws n es) y) (x : Int) = true
      · have := hiff.2 ⟨hr', (reach_true hb hy hx).1 hq⟩
        rw [hq, this]
        simp
      · have h5 : ¬ of.getD x 0 = of.getD y 0 := fun e => hq ((reach_true hb hy hx).2 (hiff.1 e).2)
        have hq' : rdOf false (reachL (rws n es) y) (x : Int) = false := by simpa using hq
        rw [hq', beq_eq_false_iff_ne.2 h5]
        simp
    · refine Ev.neg hr (Ev.neg ?_ next')
      have h5 : ¬ of.getD x 0 = of.getD y 0 := fun e => hr ((reach_true hb hx hy).2 (hiff.1 e).1)
      rw [beq_eq_false_iff_ne.2 h5]
      simp
theorem parts_l2 {n : Nat} {es : List IPair} {xs : List Nat} {of : List Int} (hn : n ≤ 1000) (hl : es.length ≤ 1000000) (hb : cleanBad (n : Int) es = false) (hc : Cls (rws n es) xs) (ho : OI (rws n es) xs xs.length [] of) :
    ∀ (m x : Nat), x + m = n → Ev (fun k => lambrequinlaw10_GraphParts.l2 k true (n : Int) es of (n : Int) (x : Int)) true
  | 0, x, h => by
    refine Ev.step (fun k => by rw [lambrequinlaw10_GraphParts.l2]) ?_
    exact Ev.neg (by omega) (Ev.pos rfl (Ev.some (by simp)))
  | m + 1, x, h => by
    refine Ev.step (fun k => by rw [lambrequinlaw10_GraphParts.l2]) ?_
    exact Ev.pos (by omega) (Ev.bind (Reach_ev hl hb (by omega)) (parts_l3 hn hl hb hc ho (by omega) (parts_l2 hn hl hb hc ho m (x + 1) (by omega)) n 0 (by omega)))
theorem parts_l0 {n : Nat} {es : List IPair} {xs : List Nat} {p : List (List Int)} (hn : n ≤ 1000) (hl : es.length ≤ 1000000) (hb : cleanBad (n : Int) es = false) (hc : Cls (rws n es) xs) (hp : p = xs.map (partL (tabL (rws n es)) n)) (hxs : xs.length ≤ 1000) :
    ∀ (d : List Nat) (i : Nat) (of : List Int), xs.drop i = d → OI (rws n es) xs i [] of → i ≤ xs.length → Ev (fun k => lambrequinlaw10_GraphParts.l0 k true (n : Int) es p of ((((xs.take i).map fun x => (partL (tabL (rws n es)) n x).length).sum : Nat) : Int) (i : Int)) true
  | [], i, of, hd, hv, hi => by
    have hil := drop_end hd
    have e : i = xs.length := by omega
    rw [e, List.take_length]
    rw [e] at hv
    have hs := hc.sum
    rw [rws_len] at hs
    rw [hs]
    refine Ev.step (fun k => by rw [lambrequinlaw10_GraphParts.l0]) ?_
    refine Ev.neg (by rw [hp, List.length_map]; omega) ?_
    exact parts_l2 hn hl hb hc hv n 0 (by omega)
  | x :: d, i, of, hd, hv, hi => by
    obtain ⟨h1, h2, h3, h4, h5⟩ := drop_more hd (by omega)
    have hx : xs[i]? = some x := by
      have := congrArg (fun z => z[0]?) hd
      simpa using this
    have et : ((xs.take (i + 1)).map fun x => (partL (tabL (rws n es)) n x).length).sum = ((xs.take i).map fun x => (partL (tabL (rws n es)) n x).length).sum + (partL (tabL (rws n es)) n x).length := by
      rw [take_snoc hx, List.map_append, List.sum_append, List.map_singleton, List.sum_singleton]
    have hb2 : ((xs.take (i + 1)).map fun x => (partL (tabL (rws n es)) n x).length).sum ≤ 100000 := by
      have hs := hc.sum
      rw [rws_len] at hs
      have hsp : xs = xs.take (i + 1) ++ xs.drop (i + 1) := (List.take_append_drop _ _).symm
      rw [hsp, List.map_append, List.sum_append] at hs
      omega
    rw [et] at hb2
    refine Ev.step (fun k => by rw [lambrequinlaw10_GraphParts.l0]) ?_
    refine Ev.pos (by rw [hp, List.length_map]; clear h5; omega) ?_
    refine parts_l1 hn (rws_ok hb) hc hp hx hb2 (fun of' hv' => ?_) _ 0 of rfl (Nat.zero_le _) (by simpa using hv)
    rw [← et]
    exact parts_l0 hn hl hb hc hp hxs d (i + 1) of' h4 hv' (by clear h5; omega)
theorem GraphParts_ev (a0 : Int) (h0 : 0 ≤ a0) (h1 : a0 < 256) (l : List BPair) (hl : l.length ≤ 9223372036854775807) (hb : ∀ e ∈ l, byteP e) : Ev (fun k => lambrequinlaw10_GraphParts.f k a0 l) true := by
  obtain ⟨n, es, hn, hn2, hev, hel, hin⟩ := ends_ev a0 h0 h1 l hl hb
  have hbad := inE_bad hin (by omega)
  obtain ⟨xs, hx, hc⟩ := Parts_cls (by omega) hbad
  have hlen := rws_len n es
  have hxs : xs.length ≤ 1000 := by
    have := few_le (fun a b => a = b) xs (List.range n) (fun z hz => ⟨z, List.mem_range.2 (by have := hc.lt z hz; omega), rfl⟩) (hc.apart.imp (fun {a b} hab y hy => hab (by rw [hy.1, hy.2]; exact ⟨.refl, .refl⟩)))
    rw [List.length_range] at this
    omega
  unfold lambrequinlaw10_GraphParts.f
  refine Ev.bind shown10_ev (Ev.bind hev (Ev.bind hx (Ev.pos (by show (0 : Int) ≤ (n : Int); omega) (Ev.pos (by show ((n : Int)).toNat ≤ _; omega) ?_))))
  show Ev (fun k => lambrequinlaw10_GraphParts.l0 k true (n : Int) es _ (List.replicate ((n : Int)).toNat 0) 0 0) true
  refine parts_l0 (by omega) (by omega) hbad hc rfl hxs xs 0 _ rfl ⟨by rw [List.length_replicate]; omega, fun j x y hj => by omega, fun v hv => by cases hv⟩ (Nat.zero_le _)
theorem GraphParts_pure (a0 : Int) (w0 : (Lit.int .u8 a0).wf = true) (x1 : List BPair) (y1 : x1.length * 2 ≤ 140737488351232) (b1 : x1.length ≤ 9223372036854775807 ∧ ∀ y ∈ x1, bBPair y) :
    ∃ k, lambrequinlaw10_GraphParts.f k a0 x1 = some true :=
  Ev.rounds (g := fun k => lambrequinlaw10_GraphParts.f k a0 x1) (GraphParts_ev a0 (byte_wf w0).1 (byte_wf w0).2 x1 b1.1 (bytes_of b1.2))
theorem GraphParts_walk (w : World) (a0 : Int) (w0 : (Lit.int .u8 a0).wf = true) (x1 : (List BPair)) (A1 : Option Addr) (c1 : Nat) (l1 : x1.length ≤ c1) (g1 : Kd.C k45 w A1 x1.length x1) (y1 : x1.length * 2 ≤ 140737488351232) (b1 : x1.length ≤ 9223372036854775807 ∧ ∀ y ∈ x1, bBPair y) :
    Calls Try.prog 5 #[.int .u8 a0, .slice A1 x1.length c1] w fun e w' => e = .returned (.bool true) ∧ Below w.heap.size w w' := by
  obtain ⟨k, h⟩ := GraphParts_pure a0 w0 x1 y1 b1
  exact (lambrequinlaw10_GraphParts.calls k a0 A1 c1 x1 true w g1 l1 h).mono (fun e w' h' => ⟨h'.1, h'.2⟩)
end Go.Proofs.Ytmlhnjonmjmhdaa.H
namespace Go.Proofs.Ytmlhnjonmjmhdaa.graphParts
open Go.ChangeShapes Go.WideShapes Go.ChangeAt Go.RowKit Go.Proofs.Ytmlhnjonmjmhdaa.H Go.Proofs.YtmlhnjonmjmhdaaW.PrintWords
open Go.ChangeMaps (open_string shut_string)
theorem own : ownKnob Try.prog.godebug = none := by kernel_rfl
theorem laidOut : laidOutB Try.prog = true := by kernel_rfl
set_option maxRecDepth 100000 in
theorem lifted (os : Os) (started : os.Started) (H : Type) (enc : TypeId × Value → H) :
    ReturnsInHanded {} Try.checked os 5 .any (Rows.graphPartsSpec.pre6 enc Try.prog Try.f5 Rows.graphPartsRow.domain false) (Rows.graphPartsSpec.post enc Try.prog Try.f5 false true false false) := by
  refine returnsInHanded_of_change_sized (C := Try.checked) own started (by kernel_rfl) Try.func5
    (ChangeSpec.witness6 (enc := enc) (C := Try.checked) false ⟨#[], #[.int .u8 0, .slice none 0 0], []⟩ 8 (by kernel_rfl) (by kernel_rfl) (by kernel_rfl) (by kernel_rfl)) ?_
  intro W base args ds gs before hval0 hW hcnd hsz0 _
  have hsz : (DataW.weightsEach Try.prog (Try.f5.params.toList ++ Rows.graphPartsSpec.plain.varTypes Try.prog) (ds ++ gs)).all (· ≤ reachBytes) = true := hsz0
  have hval : ∀ (j : Nat) t v, Try.f5.params[j]? = some t → args[j]? = some v → Value.okWide Try.prog W .any base t v := hval0
  have hW' := hW
  obtain ⟨p, q, hA0, hV, rfl, hfz, hnd⟩ := hW
  have hA : DataW.TrodAll enc Try.prog W 0 (fun _ => true) true Try.f5.params.toList args.toList ds p := hA0
  rw [Try.params5] at hA hval hsz
  obtain ⟨v0, vs0, d0, ds0, p0, q0, hargs, rfl, rfl, h0, r0⟩ := trodAll_cons hA
  obtain ⟨v1, vs1, d1, ds1, p1, q1, rfl, rfl, rfl, h1, r1⟩ := trodAll_cons r0
  obtain ⟨rfl, rfl, rfl⟩ := trodAll_nil r1
  obtain rfl : args = #[v0, v1] := by cases args; simp_all
  obtain ⟨rfl, rfl⟩ := trodVars_none hV
  obtain ⟨a0, rfl, rfl, rfl, w0⟩ := open_int Try.underlying5 (hval 0 5 v0 rfl rfl) h0
  have k1 := h1
  have lt1 : ∀ x ∈ p1, x.block < W.heap.size := by obtain ⟨m, hm⟩ := k1; exact DataW.trod_lt m _ _ _ hm
  obtain ⟨a1, len1, cap1, rfl⟩ := okWide_slice Try.underlying22 (hval 1 22 v1 rfl rfl)
  have y1 := sized_row hsz (j := 1) (t := 22) rfl rfl Try.underlying22 (B := 2) (by kernel_rfl) h1
  obtain ⟨x1, ⟨A1, c1, e1, l1, g1⟩, b1⟩ := (opens_slice Try.underlying22 (by kernel_rfl) opens_BPair 45).argB k1
  simp only [Value.cells, List.cons.injEq, and_true, Value.slice.injEq] at e1
  obtain ⟨rfl, rfl, rfl⟩ := e1
  clear hA0 hval0 hsz0 hsz
  refine (GraphParts_walk W a0 w0 x1 a1 cap1 l1 g1 y1 b1).mono fun e W' ⟨he, bel⟩ => ?_
  subst he
  exact ⟨_, rfl, _, _, _, [], _, [], hW', trodAll_mk1 (shut_bool Try.underlying4 _), (trodAll_cons_mk (shut_int Try.underlying5 w0) (trodAll_cons_mk (Below.trod laidOut (by kernel_rfl) (of_decide_eq_true (by kernel_rfl)) k1 bel lt1) trodAll_mk0)), rfl, bel.frame _, fun h => by cases h⟩
theorem over : Rows.graphPartsRow.holds Try.pinned (OpenSpec.ofChange Rows.graphPartsSpec) :=
  OpenClaim.holds_of_wide 5 Try.f5 rfl rfl rfl rfl rfl rfl rfl ⟨rfl, rfl, rfl, rfl, rfl⟩ rfl rfl rfl rfl rfl (by kernel_rfl) Try.func5 (by kernel_rfl)
    (of_decide_eq_true (by kernel_rfl)) (by unfold Func.isWrapper; first | (rw [if_pos (by decide +kernel)]; kernel_rfl) | (rw [if_neg (by decide +kernel)]; exact ⟨rfl, rfl⟩))
    (fun os started H enc _ => lifted os started H enc)
theorem proved : Rows.GraphPartsSaid := over
end Go.Proofs.Ytmlhnjonmjmhdaa.graphParts
namespace Go.Proofs.Ytmlhnjonmjmhdaa
theorem graphParts_holds : Rows.GraphPartsSaid := graphParts.proved
#print axioms graphParts_holds
end Go.Proofs.Ytmlhnjonmjmhdaa

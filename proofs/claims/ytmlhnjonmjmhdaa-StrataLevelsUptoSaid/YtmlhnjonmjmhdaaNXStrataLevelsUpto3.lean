/- RowStrataLevelsUpto of the seat's law StrataLevelsUpto: the law holds, under the statement's own conditions. -/
import Derived.Test.YtmlhnjonmjmhdaaNXStrataLevelsUpto
import Derived.Test.YtmlhnjonmjmhdaaNXStrataLevelsUpto2
import Derived.Test.YtmlhnjonmjmhdaaNXStrataLevelsUpto1
import Derived.Test.YtmlhnjonmjmhdaaNW
set_option linter.unusedVariables false
set_option linter.unusedSimpArgs false
set_option linter.unusedSectionVars false
namespace Go.Proofs.Ytmlhnjonmjmhdaa.H
open Go.RowKit Go.Proofs.YtmlhnjonmjmhdaaW.PrintWords Go.Proofs.YtmlhnjonmjmhdaaW.PrintLast Go.Proofs.YtmlhnjonmjmhdaaW.PrintMore
attribute [local go_sem] max2_int min2_int max_two min_two max_three min_three max_four min_four
mutual
def strata_levels.l0 : Nat → List (IPair) → List (IPair) → List Int → List (List Int) → Int → Int → Option (List Int)
 | 0, _, _, _, _, _, _ => none
 | k + 1, x1, x2, x7, x21, x22, x23 => if x23 < x22 then (if 0 ≤ x23 then (if x23 < (x21.length : Int) then (strata_levels.l1 k x1 x2 x7 (rd_L19 x21 x23) 0 x21 x22 x23 x1 (x1.length : Int) 0) else (none)) else (none)) else (some x7)
def strata_levels.l1 : Nat → List (IPair) → List (IPair) → List Int → List Int → Int → List (List Int) → Int → Int → List (IPair) → Int → Int → Option (List Int)
 | 0, _, _, _, _, _, _, _, _, _, _, _ => none
 | k + 1, x1, x2, x7, x9, x10, x21, x22, x23, x27, x28, x29 => if x29 < x28 then (if 0 ≤ x29 then (if x29 < (x27.length : Int) then ((slices_Contains_int_int.f k x9 ((rd_T27 x27 x29).fst)).bind fun t110 => (if t110 = true then ((slices_Contains_int_int.f k x9 ((rd_T27 x27 x29).snd)).bind fun t111 => (if t111 = true then (strata_levels.l1 k x1 x2 x7 x9 x10 x21 x22 x23 x27 x28 (wrap64 (x29 + 1))) else (if 0 ≤ ((rd_T27 x27 x29).snd) then (if ((rd_T27 x27 x29).snd) < (x7.length : Int) then (strata_levels.l1 k x1 x2 x7 x9 (mx x10 (rd x7 ((rd_T27 x27 x29).snd))) x21 x22 x23 x27 x28 (wrap64 (x29 + 1))) else (none)) else (none)))) else (strata_levels.l1 k x1 x2 x7 x9 x10 x21 x22 x23 x27 x28 (wrap64 (x29 + 1))))) else (none)) else (none)) else (strata_levels.l2 k x1 x2 x7 x9 x10 x21 x22 x23 x2 (x2.length : Int) 0)
def strata_levels.l2 : Nat → List (IPair) → List (IPair) → List Int → List Int → Int → List (List Int) → Int → Int → List (IPair) → Int → Int → Option (List Int)
 | 0, _, _, _, _, _, _, _, _, _, _, _ => none
 | k + 1, x1, x2, x7, x9, x10, x21, x22, x23, x52, x53, x54 => if x54 < x53 then (if 0 ≤ x54 then (if x54 < (x52.length : Int) then ((slices_Contains_int_int.f k x9 ((rd_T27 x52 x54).fst)).bind fun t115 => (if t115 = true then (if 0 ≤ ((rd_T27 x52 x54).snd) then (if ((rd_T27 x52 x54).snd) < (x7.length : Int) then (strata_levels.l2 k x1 x2 x7 x9 (mx x10 (wrap64 ((rd x7 ((rd_T27 x52 x54).snd)) + 1))) x21 x22 x23 x52 x53 (wrap64 (x54 + 1))) else (none)) else (none)) else (strata_levels.l2 k x1 x2 x7 x9 x10 x21 x22 x23 x52 x53 (wrap64 (x54 + 1))))) else (none)) else (none)) else (strata_levels.l3 k x1 x2 x7 x10 x21 x22 x23 x9 (x9.length : Int) 0)
def strata_levels.l3 : Nat → List (IPair) → List (IPair) → List Int → Int → List (List Int) → Int → Int → List Int → Int → Int → Option (List Int)
 | 0, _, _, _, _, _, _, _, _, _, _ => none
 | k + 1, x1, x2, x7, x10, x21, x22, x23, x71, x72, x73 => if x73 < x72 then (if 0 ≤ x73 then (if x73 < (x71.length : Int) then (if 0 ≤ (rd x71 x73) then (if (rd x71 x73) < (x7.length : Int) then (strata_levels.l3 k x1 x2 (x7.set ((rd x71 x73) : Int).toNat x10) x10 x21 x22 x23 x71 x72 (wrap64 (x73 + 1))) else (none)) else (none)) else (none)) else (none)) else (strata_levels.l0 k x1 x2 x7 x21 x22 (wrap64 (x23 + 1)))
end
def strata_levels.f (k : Nat) (a0 : Int) (l1 : List (IPair)) (l2 : List (IPair)) : Option (List Int) := if 0 ≤ a0 then (if (a0 : Int).toNat ≤ 35184372088832 then ((graph_Parts.f k a0 l1).bind fun t104 => (strata_levels.l0 k l1 l2 (List.replicate (a0 : Int).toNat 0) t104 (t104.length : Int) 0)) else (none)) else (none)
theorem strata_levels.mono_l : ∀ k, (∀ y0 y1 y2 y3 y4 y5, LeO (strata_levels.l0 k y0 y1 y2 y3 y4 y5) (strata_levels.l0 (k + 1) y0 y1 y2 y3 y4 y5)) ∧ (∀ y0 y1 y2 y3 y4 y5 y6 y7 y8 y9 y10, LeO (strata_levels.l1 k y0 y1 y2 y3 y4 y5 y6 y7 y8 y9 y10) (strata_levels.l1 (k + 1) y0 y1 y2 y3 y4 y5 y6 y7 y8 y9 y10)) ∧ (∀ y0 y1 y2 y3 y4 y5 y6 y7 y8 y9 y10, LeO (strata_levels.l2 k y0 y1 y2 y3 y4 y5 y6 y7 y8 y9 y10) (strata_levels.l2 (k + 1) y0 y1 y2 y3 y4 y5 y6 y7 y8 y9 y10)) ∧ (∀ y0 y1 y2 y3 y4 y5 y6 y7 y8 y9, LeO (strata_levels.l3 k y0 y1 y2 y3 y4 y5 y6 y7 y8 y9) (strata_levels.l3 (k + 1) y0 y1 y2 y3 y4 y5 y6 y7 y8 y9))
 | 0 => ⟨fun _ _ _ _ _ _ r h => by simp [strata_levels.l0] at h, fun _ _ _ _ _ _ _ _ _ _ _ r h => by simp [strata_levels.l1] at h, fun _ _ _ _ _ _ _ _ _ _ _ r h => by simp [strata_levels.l2] at h, fun _ _ _ _ _ _ _ _ _ _ r h => by simp [strata_levels.l3] at h⟩
 | k + 1 => by
  obtain ⟨ih0, ih1, ih2, ih3⟩ := strata_levels.mono_l k
  refine ⟨?_, ?_, ?_, ?_⟩
  ·intro y0 y1 y2 y3 y4 y5
   unfold strata_levels.l0
   repeat' first
   | (with_reducible exact ih0 _ _ _ _ _ _)
   | (with_reducible exact ih1 _ _ _ _ _ _ _ _ _ _ _)
   | (with_reducible exact ih2 _ _ _ _ _ _ _ _ _ _ _)
   | (with_reducible exact ih3 _ _ _ _ _ _ _ _ _ _)
   | (with_reducible exact graph_Parts.mono _ _ _)
   | (with_reducible exact slices_Contains_int_int.mono _ _ _)
   | (with_reducible exact LeO.refl _)
   | (with_reducible exact LeO.none _)
   | (with_reducible refine LeO.ite ?_ ?_)
   | (with_reducible refine LeO.bind ?_ (fun _ => ?_))
   | exact ih0 _ _ _ _ _ _
   | exact ih1 _ _ _ _ _ _ _ _ _ _ _
   | exact ih2 _ _ _ _ _ _ _ _ _ _ _
   | exact ih3 _ _ _ _ _ _ _ _ _ _
   | exact graph_Parts.mono _ _ _
   | exact slices_Contains_int_int.mono _ _ _
   | exact LeO.none _
   | refine LeO.ite ?_ ?_
   | refine LeO.bind ?_ (fun _ => ?_)
  ·intro y0 y1 y2 y3 y4 y5 y6 y7 y8 y9 y10
   unfold strata_levels.l1
   repeat' first
   | (with_reducible exact ih0 _ _ _ _ _ _)
   | (with_reducible exact ih1 _ _ _ _ _ _ _ _ _ _ _)
   | (with_reducible exact ih2 _ _ _ _ _ _ _ _ _ _ _)
   | (with_reducible exact ih3 _ _ _ _ _ _ _ _ _ _)
   | (with_reducible exact graph_Parts.mono _ _ _)
   | (with_reducible exact slices_Contains_int_int.mono _ _ _)
   | (with_reducible exact LeO.refl _)
   | (with_reducible exact LeO.none _)
   | (with_reducible refine LeO.ite ?_ ?_)
   | (with_reducible refine LeO.bind ?_ (fun _ => ?_))
   | exact ih0 _ _ _ _ _ _
   | exact ih1 _ _ _ _ _ _ _ _ _ _ _
   | exact ih2 _ _ _ _ _ _ _ _ _ _ _
   | exact ih3 _ _ _ _ _ _ _ _ _ _
   | exact graph_Parts.mono _ _ _
   | exact slices_Contains_int_int.mono _ _ _
   | exact LeO.none _
   | refine LeO.ite ?_ ?_
   | refine LeO.bind ?_ (fun _ => ?_)
  ·intro y0 y1 y2 y3 y4 y5 y6 y7 y8 y9 y10
   unfold strata_levels.l2
   repeat' first
   | (with_reducible exact ih0 _ _ _ _ _ _)
   | (with_reducible exact ih1 _ _ _ _ _ _ _ _ _ _ _)
   | (with_reducible exact ih2 _ _ _ _ _ _ _ _ _ _ _)
   | (with_reducible exact ih3 _ _ _ _ _ _ _ _ _ _)
   | (with_reducible exact graph_Parts.mono _ _ _)
   | (with_reducible exact slices_Contains_int_int.mono _ _ _)
   | (with_reducible exact LeO.refl _)
   | (with_reducible exact LeO.none _)
   | (with_reducible refine LeO.ite ?_ ?_)
   | (with_reducible refine LeO.bind ?_ (fun _ => ?_))
   | exact ih0 _ _ _ _ _ _
   | exact ih1 _ _ _ _ _ _ _ _ _ _ _
   | exact ih2 _ _ _ _ _ _ _ _ _ _ _
   | exact ih3 _ _ _ _ _ _ _ _ _ _
   | exact graph_Parts.mono _ _ _
   | exact slices_Contains_int_int.mono _ _ _
   | exact LeO.none _
   | refine LeO.ite ?_ ?_
   | refine LeO.bind ?_ (fun _ => ?_)
  ·intro y0 y1 y2 y3 y4 y5 y6 y7 y8 y9
   unfold strata_levels.l3
   repeat' first
   | (with_reducible exact ih0 _ _ _ _ _ _)
   | (with_reducible exact ih1 _ _ _ _ _ _ _ _ _ _ _)
   | (with_reducible exact ih2 _ _ _ _ _ _ _ _ _ _ _)
   | (with_reducible exact ih3 _ _ _ _ _ _ _ _ _ _)
   | (with_reducible exact graph_Parts.mono _ _ _)
   | (with_reducible exact slices_Contains_int_int.mono _ _ _)
   | (with_reducible exact LeO.refl _)
   | (with_reducible exact LeO.none _)
   | (with_reducible refine LeO.ite ?_ ?_)
   | (with_reducible refine LeO.bind ?_ (fun _ => ?_))
   | exact ih0 _ _ _ _ _ _
   | exact ih1 _ _ _ _ _ _ _ _ _ _ _
   | exact ih2 _ _ _ _ _ _ _ _ _ _ _
   | exact ih3 _ _ _ _ _ _ _ _ _ _
   | exact graph_Parts.mono _ _ _
   | exact slices_Contains_int_int.mono _ _ _
   | exact LeO.none _
   | refine LeO.ite ?_ ?_
   | refine LeO.bind ?_ (fun _ => ?_)
theorem strata_levels.mono : ∀ a0 a1 a2 k, LeO (strata_levels.f k a0 a1 a2) (strata_levels.f (k + 1) a0 a1 a2) := by
 intro a0 a1 a2 k
 obtain ⟨ih0, ih1, ih2, ih3⟩ := strata_levels.mono_l k
 unfold strata_levels.f
 repeat' first
   | (with_reducible exact ih0 _ _ _ _ _ _)
   | (with_reducible exact ih1 _ _ _ _ _ _ _ _ _ _ _)
   | (with_reducible exact ih2 _ _ _ _ _ _ _ _ _ _ _)
   | (with_reducible exact ih3 _ _ _ _ _ _ _ _ _ _)
   | (with_reducible exact graph_Parts.mono _ _ _)
   | (with_reducible exact slices_Contains_int_int.mono _ _ _)
   | (with_reducible exact LeO.refl _)
   | (with_reducible exact LeO.none _)
   | (with_reducible refine LeO.ite ?_ ?_)
   | (with_reducible refine LeO.bind ?_ (fun _ => ?_))
   | exact ih0 _ _ _ _ _ _
   | exact ih1 _ _ _ _ _ _ _ _ _ _ _
   | exact ih2 _ _ _ _ _ _ _ _ _ _ _
   | exact ih3 _ _ _ _ _ _ _ _ _ _
   | exact graph_Parts.mono _ _ _
   | exact slices_Contains_int_int.mono _ _ _
   | exact LeO.none _
   | refine LeO.ite ?_ ?_
   | refine LeO.bind ?_ (fun _ => ?_)
set_option maxHeartbeats 8000000 in
set_option maxRecDepth 100000 in
theorem strata_levels.calls (k : Nat) (a0 : Int) (A1 : Option Addr) (c1 : Nat) (l1 : List (IPair)) (A2 : Option Addr) (c2 : Nat) (l2 : List (IPair)) (r : List Int) (w : World) (hr1 : Kd.C k27 w A1 l1.length l1) (hc1 : l1.length ≤ c1) (hr2 : Kd.C k27 w A2 l2.length l2) (hc2 : l2.length ≤ c2) (h : strata_levels.f k a0 l1 l2 = some r) :
  Calls Try.prog 54 #[.int .i64 a0, .slice A1 l1.length c1, .slice A2 l2.length c2] w fun e w' => ∃ v0_ : Value, e = .returned (v0_) ∧ Kd.R (Kd.int .i64) 3 w' w.heap.size (fun _ => True) v0_ r ∧ Below w.heap.size w w' := by
 have hu27 := Try.underlying27
 have HR1 := am hr1
 have HC1 := am hc1
 clear hr1 hc1
 have HR2 := am hr2
 have HC2 := am hc2
 clear hr2 hc2
 have HB := am (Below.refl w.heap.size w)
 have H : (if 0 ≤ a0 then (if (a0 : Int).toNat ≤ 35184372088832 then ((graph_Parts.f k a0 l1).bind fun t104 => (strata_levels.l0 k l1 l2 (List.replicate (a0 : Int).toNat 0) t104 (t104.length : Int) 0)) else (none)) else (none)) = some r := h
 clear h
 by_cases c4 : 0 ≤ a0
 ·rw [if_pos c4] at H
  have c4b0 := eq_true c4
  have c4b1 : decide (0 ≤ a0) = true := decide_eq_true c4
  clear c4
  by_cases c5 : (a0 : Int).toNat ≤ 35184372088832
  ·rw [if_pos c5] at H
   have c5b0 := eq_true c5
   have c5b1 : decide ((a0 : Int).toNat ≤ 35184372088832) = true := decide_eq_true c5
   clear c5
   obtain ⟨y101, hy101⟩ : ∃ y_ : List Int, y_ = (List.replicate (a0 : Int).toNat 0) := ⟨_, rfl⟩
   replace H : ((graph_Parts.f k a0 l1).bind fun t104 => (strata_levels.l0 k l1 l2 y101 t104 (t104.length : Int) 0)) = some r := by first | (rw [hy101]; with_reducible exact H) | (have H2_ := (Option.bind_some _ _).symm.trans H; rw [hy101]; with_reducible exact H2_) | (have H2_ := (Option.bind_some _ _).symm.trans H; with_reducible exact H2_) | with_reducible exact H | (rw [hy101]; exact H) | exact H
   have Ny101 := am hy101
   clear hy101
   replace H := Option.bind_eq_some_iff.mp H
   obtain ⟨t104, A60, H⟩ := H
   replace H : (strata_levels.l0 k l1 l2 y101 t104 (t104.length : Int) 0) = some r := H
   have A6 := am A60
   clear A60
   have H' := am H
   clear H
   go_enter Try.func54, Try.ntmps54
   go_wp2_with (first | ((with_reducible refine gate_dst (N := 18) rfl ?_); refine Kd.R_make (Kd.int .i64) _ 3 rfl (N := 18) rfl 35 _ _ rfl a0 rfl rfl Try.underlying35 (.int .i64 0) 8 info3 rfl (by decide) (by omega) 0 (ok := fun _ => True) (okp := fun _ => True) rfl (fun _ hk => hk) trivial (of_decide_eq_true (by first | (with_reducible assumption) | assumption)) (Nat.le_trans (Nat.mul_le_mul_right _ (of_decide_eq_true (by first | (with_reducible assumption) | assumption) : a0.toNat ≤ 35184372088832)) (by omega)) (Below.refl _ _) (Nat.le_refl _) ?_; intro v102 w7 ho8 hb hg_ hnew_; clear hg_ hnew_; (first | rw [← Ny101.out] at ho8 | (simp only [Int.reduceToNat] at ho8; rw [← Ny101.out] at ho8)); have HO103 := am (Kd.R_lower ho8 (below_size (by repeat (first | (with_reducible first | exact HB.out | apply lA | apply lN | apply lD) | exact HB.out)))); replace HB := am (below_step (by repeat (first | (with_reducible first | exact HB.out | apply lA | apply lN | apply lD) | exact HB.out)) hb); clear hb ho8) | ((with_reducible refine gate_callee (f := 18) rfl ?_); refine goesL_ (some 21) rfl rfl Try.func18 (by kernel_rfl) rfl #[.int .i64 a0, .slice A1 l1.length c1] rfl (by (try simp only [List.map_toArray, List.map_cons, List.map_nil]); first | done | rfl | (simp only [List.length_drop, List.length_take]; rfl)) ?_; (with_reducible refine (graph_Parts.calls k a0 _ _ l1 t104 _ ?side1 ?side2 A6.out).mono ?_); (case side1 => repeat (first | exact (Kd.C_below HR1.out HB.out) | (with_reducible refine Kd.C_alloc ?_ _) | (with_reducible refine Kd.C_drewN ?_ _) | (with_reducible refine Kd.C_drew ?_))); (case side2 => exact HC1.out); rintro e w9 ⟨v105, rfl, ho0, hb⟩; refine ⟨_, rfl, ?_⟩; have HO106 := am (Kd.S_lower (Kd.S_new' ho0 (Kd.R_lt (by (with_reducible repeat (first | apply Ra | apply Rn | apply Rd)); exact HO103.out))) (below_size (by repeat (first | (with_reducible first | exact HB.out | apply lA | apply lN | apply lD) | exact HB.out)))); replace HO103 := am (Kd.R_below (by (with_reducible repeat (first | apply Ra | apply Rn | apply Rd)); exact HO103.out) hb); replace HB := am (below_step (by repeat (first | (with_reducible first | exact HB.out | apply lA | apply lN | apply lD) | exact HB.out)) hb); (try clear hb); (try clear hb2); (try clear hk); (try clear hi); (try clear ho0); obtain ⟨Ao10, co10, eo10⟩ := Kd.S_slice HO106.out; subst eo10))
   go_loopg [23] k (fun kq v23 w' => ∃ (x7_1 : List Int) (x23_1 : Int), v23 = .int .i64 x23_1 ∧ Aside0 (strata_levels.l0 kq l1 l2 x7_1 t104 (t104.length : Int) x23_1 = some r) ∧ Aside0 (kq ≤ k) ∧ Aside0 (Kd.R (Kd.int .i64) 3 w' w.heap.size (fun _ => True) v102 x7_1) ∧ Aside0 (Kd.S (Kd.slice 3 (Kd.int .i64)) 35 w' w.heap.size (fun k_ => some k_ ≠ (v102 : Value).ownBlock) (.slice Ao10 t104.length co10) t104) ∧ Aside0 (Below w.heap.size w w'))
   case atStart => exact ⟨(y101), (0), (by first | rfl | (simp; done) | (simp [*]; done)), H', ⟨Nat.le_refl _⟩, ⟨by (with_reducible repeat (first | apply Ra | apply Rn | apply Rd)); exact HO103.out⟩, ⟨by (with_reducible repeat (first | apply Kd.S_alloc | apply Kd.S_drewN | apply Kd.S_drew)); exact Kd.S_mono HO106.out (fun _ hk => hk.2)⟩, ⟨by repeat (first | (with_reducible first | exact HB.out | apply lA | apply lN | apply lD) | exact HB.out)⟩⟩
   case round =>
    clear H'
    try clear c1
    try clear c2
    try clear p2
    try clear c4
    try clear c4b0
    try clear c4b1
    try clear c5
    try clear c5b0
    try clear c5b1
    obtain ⟨x7_1, x23_1, rfl, HA, HK1, HO_7, HO_21, HB⟩ := hrel
    cases gk with
    | zero => exact absurd HA.out (by simp [strata_levels.l0])
    | succ k1 =>
     have H := HA.out
     clear HA
     simp only [strata_levels.l0] at H
     by_cases c11 : x23_1 < (t104.length : Int)
     ·rw [if_pos c11] at H
      have c11b0 : decide (x23_1 < (t104.length : Int)) = true := decide_eq_true c11
      clear c11
      by_cases c12 : 0 ≤ x23_1
      ·rw [if_pos c12] at H
       have c12b0 : decide (0 ≤ x23_1) = true := decide_eq_true c12
       clear c12
       by_cases c13 : x23_1 < (t104.length : Int)
       ·rw [if_pos c13] at H
        have c13b0 : decide (x23_1 < (t104.length : Int)) = true := decide_eq_true c13
        clear c13
        have H' := am H
        clear H
        have p107 : 0 ≤ (x23_1 : Int) := of_decide_eq_true (by first | (with_reducible assumption) | assumption)
        have q107 : x23_1 < (t104.length : Int) := of_decide_eq_true (by first | (with_reducible assumption) | assumption)
        obtain ⟨ad107, A107_0, c107_0, e107, hx107_0, hl107_0, hi107_0⟩ := at_L19 (Kd.S_reads' HO_21.out).2.2 x23_1 p107 q107
        cases e107
        obtain ⟨ce107, hce107, hMe107, hcc107⟩ := Kd.S_get HO_21.out [] x23_1 p107 (by first | exact q107 | exact of_decide_eq_true (by first | (with_reducible assumption) | assumption) | (have e_ := (Kd.S_reads' HO_21.out).1; omega))
        obtain ⟨ve107_0, rfl, ge107_0⟩ := hMe107
        have hv107_0 := hcc107 0 _ rfl
        rw [Nat.add_zero, show ((Kd.slice 3 (Kd.int .i64))).sz = 1 from rfl, Nat.mul_one] at hv107_0
        replace hv107_0 := Option.some.inj (hv107_0.symm.trans hx107_0)
        rw [hv107_0] at ge107_0
        have HL107_0 := am (show Kd.R (Kd.int .i64) 3 _ _ _ _ (rd_L19 t104 x23_1) from ge107_0)
        replace HL107_0 := am (Kd.R_mono HL107_0.out (fun _ h_ => h_.1))
        clear hv107_0 ge107_0
        clear hcc107 hce107
        have HR107_0 := am hi107_0
        have HC107_0 := am hl107_0
        clear hi107_0 hl107_0
        replace p107 := eq_true p107
        replace q107 := eq_true q107
        go_wp2
        go_loopg [10, 29] k1 (fun kq v10 v29 w' => ∃ (x10_2 : Int) (x29_2 : Int), v10 = .int .i64 x10_2 ∧ v29 = .int .i64 x29_2 ∧ Aside0 (strata_levels.l1 kq l1 l2 x7_1 (rd_L19 t104 x23_1) x10_2 t104 (t104.length : Int) x23_1 l1 (l1.length : Int) x29_2 = some r) ∧ Aside0 (kq ≤ k1) ∧ Aside0 (Kd.R (Kd.int .i64) 3 w' w.heap.size (fun _ => True) v102 x7_1) ∧ Aside0 (Kd.S (Kd.slice 3 (Kd.int .i64)) 35 w' w.heap.size (fun k_ => some k_ ≠ (v102 : Value).ownBlock) (.slice (some ad107) t104.length co10) t104) ∧ Aside0 (Kd.R (Kd.int .i64) 3 w' w.heap.size (fun k_ => some k_ ≠ (v102 : Value).ownBlock) (.slice A107_0 (rd_L19 t104 x23_1).length c107_0) (rd_L19 t104 x23_1)) ∧ Aside0 (Below w.heap.size w w'))
        case atStart => exact ⟨(0), (0), (by first | rfl | (simp; done) | (simp [*]; done)), (by first | rfl | (simp; done) | (simp [*]; done)), H', ⟨Nat.le_refl _⟩, ⟨by (with_reducible repeat (first | apply Ra | apply Rn | apply Rd)); exact HO_7.out⟩, ⟨by (with_reducible repeat (first | apply Kd.S_alloc | apply Kd.S_drewN | apply Kd.S_drew)); exact HO_21.out⟩, ⟨by (with_reducible repeat (first | apply Kd.R_alloc | apply Kd.R_drewN | apply Kd.R_drew)); exact HL107_0.out⟩, ⟨by repeat (first | (with_reducible first | exact HB.out | apply lA | apply lN | apply lD) | exact HB.out)⟩⟩
        case round =>
         clear H'
         try clear c1
         try clear p1
         try clear q1
         try clear hx1
         try clear c2
         try clear p2
         try clear c4
         try clear c4b0
         try clear c4b1
         try clear c5
         try clear c5b0
         try clear c5b1
         try clear c10
         try clear p10
         try clear q10
         try clear hx10
         try clear c11
         try clear c11b0
         try clear c12
         try clear c12b0
         try clear c13
         try clear c13b0
         try clear hx107_0
         try clear p107
         try clear p2
         try clear q107
         obtain ⟨x10_2, x29_2, rfl, rfl, HA, HK2, HO_7, HO_21, HL107_0, HB⟩ := hrel
         have HR107_0 := am (Kd.R_reads' HL107_0.out).2.2
         cases gk with
         | zero => exact absurd HA.out (by simp [strata_levels.l1])
         | succ k2 =>
          have H := HA.out
          clear HA
          simp only [strata_levels.l1] at H
          by_cases c14 : x29_2 < (l1.length : Int)
          ·rw [if_pos c14] at H
           have c14b0 : decide (x29_2 < (l1.length : Int)) = true := decide_eq_true c14
           clear c14
           by_cases c15 : 0 ≤ x29_2
           ·rw [if_pos c15] at H
            have c15b0 : decide (0 ≤ x29_2) = true := decide_eq_true c15
            clear c15
            by_cases c16 : x29_2 < (l1.length : Int)
            ·rw [if_pos c16] at H
             have c16b0 : decide (x29_2 < (l1.length : Int)) = true := decide_eq_true c16
             clear c16
             replace H := Option.bind_eq_some_iff.mp H
             obtain ⟨t110, A170, H⟩ := H
             replace H : (if t110 = true then ((slices_Contains_int_int.f k2 (rd_L19 t104 x23_1) ((rd_T27 l1 x29_2).snd)).bind fun t111 => (if t111 = true then (strata_levels.l1 k2 l1 l2 x7_1 (rd_L19 t104 x23_1) x10_2 t104 (t104.length : Int) x23_1 l1 (l1.length : Int) (wrap64 (x29_2 + 1))) else (if 0 ≤ ((rd_T27 l1 x29_2).snd) then (if ((rd_T27 l1 x29_2).snd) < (x7_1.length : Int) then (strata_levels.l1 k2 l1 l2 x7_1 (rd_L19 t104 x23_1) (mx x10_2 (rd x7_1 ((rd_T27 l1 x29_2).snd))) t104 (t104.length : Int) x23_1 l1 (l1.length : Int) (wrap64 (x29_2 + 1))) else (none)) else (none)))) else (strata_levels.l1 k2 l1 l2 x7_1 (rd_L19 t104 x23_1) x10_2 t104 (t104.length : Int) x23_1 l1 (l1.length : Int) (wrap64 (x29_2 + 1)))) = some r := H
             have A17 := am A170
             clear A170
             by_cases c18 : t110 = true
             ·subst c18
              have H1 : ((slices_Contains_int_int.f k2 (rd_L19 t104 x23_1) ((rd_T27 l1 x29_2).snd)).bind fun t111 => (if t111 = true then (strata_levels.l1 k2 l1 l2 x7_1 (rd_L19 t104 x23_1) x10_2 t104 (t104.length : Int) x23_1 l1 (l1.length : Int) (wrap64 (x29_2 + 1))) else (if 0 ≤ ((rd_T27 l1 x29_2).snd) then (if ((rd_T27 l1 x29_2).snd) < (x7_1.length : Int) then (strata_levels.l1 k2 l1 l2 x7_1 (rd_L19 t104 x23_1) (mx x10_2 (rd x7_1 ((rd_T27 l1 x29_2).snd))) t104 (t104.length : Int) x23_1 l1 (l1.length : Int) (wrap64 (x29_2 + 1))) else (none)) else (none)))) = some r := by rw [if_pos rfl] at H; exact H
              clear H
              have H := H1
              clear H1
              replace H := Option.bind_eq_some_iff.mp H
              obtain ⟨t111, A190, H⟩ := H
              replace H : (if t111 = true then (strata_levels.l1 k2 l1 l2 x7_1 (rd_L19 t104 x23_1) x10_2 t104 (t104.length : Int) x23_1 l1 (l1.length : Int) (wrap64 (x29_2 + 1))) else (if 0 ≤ ((rd_T27 l1 x29_2).snd) then (if ((rd_T27 l1 x29_2).snd) < (x7_1.length : Int) then (strata_levels.l1 k2 l1 l2 x7_1 (rd_L19 t104 x23_1) (mx x10_2 (rd x7_1 ((rd_T27 l1 x29_2).snd))) t104 (t104.length : Int) x23_1 l1 (l1.length : Int) (wrap64 (x29_2 + 1))) else (none)) else (none))) = some r := H
              have A19 := am A190
              clear A190
              by_cases c20 : t111 = true
              ·subst c20
               have H1 : (strata_levels.l1 k2 l1 l2 x7_1 (rd_L19 t104 x23_1) x10_2 t104 (t104.length : Int) x23_1 l1 (l1.length : Int) (wrap64 (x29_2 + 1))) = some r := by rw [if_pos rfl] at H; exact H
               clear H
               have H := H1
               clear H1
               have H' := am H
               clear H
               have p108 : 0 ≤ (x29_2 : Int) := of_decide_eq_true (by first | (with_reducible assumption) | assumption)
               have q108 : x29_2 < (l1.length : Int) := of_decide_eq_true (by first | (with_reducible assumption) | assumption)
               obtain ⟨ad108, e108, hx108_0, hx108_1⟩ := at_T27 HR1.out x29_2 p108 q108
               cases e108
               (first | (replace hx108_0 := (HB.out.cell (blt_ hx108_0)).trans hx108_0) | skip)
               replace hx108_1 := (HB.out.cell (blt_ hx108_1)).trans hx108_1
               replace p108 := eq_true p108
               replace q108 := eq_true q108
               go_wp2_with (first | ((with_reducible refine gate_dst (N := 12) rfl ?_); refine box_event ?hg (N := 12) ?hd (cs := #[.int .i64 0, .int .i64 0]) (t := 27) ?hr ?_; (case hd => rfl); (case hg => rfl); (case hr => first | (go_simp; done) | (go_simp; rfl)); intro gb109 hg w21 hbox hb; have HBr109 := am hb; have GEr109 := am (Nat.le_of_eq hg.symm); replace HO_7 := am (Kd.R_below (by (with_reducible repeat (first | apply Ra | apply Rn | apply Rd)); exact HO_7.out) hb); replace HO_21 := am (Kd.S_below (by (with_reducible repeat (first | apply Kd.S_alloc | apply Kd.S_drewN | apply Kd.S_drew)); exact HO_21.out) hb); replace HL107_0 := am (Kd.R_below (by (with_reducible repeat (first | apply Kd.R_alloc | apply Kd.R_drewN | apply Kd.R_drew)); exact HL107_0.out) hb); have BK109 := am (hbox); have GW109 := am ((by rw [hg]; exact (below_size (by repeat (first | (with_reducible first | exact HB.out | apply lA | apply lN | apply lD) | exact HB.out))) : w.heap.size ≤ gb109)); have GE109 := am ((by rw [hg]; exact (below_size (by repeat (first | (with_reducible first | exact HB.out | apply lA | apply lN | apply lD) | exact HB.out))) : w.heap.size ≤ gb109)); replace HB := am (below_step (by repeat (first | (with_reducible first | exact HB.out | apply lA | apply lN | apply lD) | exact HB.out)) hb); clear hb hbox hg; have hcz22_0 : w21.cell? ⟨gb109, 0, none⟩ = some (.int .i64 0) := (blk_cell BK109.out 0).trans rfl; have hcz22_1 : w21.cell? ⟨gb109, 1, none⟩ = some (.int .i64 0) := (blk_cell BK109.out 1).trans rfl; have hfz22_0 := blk_frozen BK109.out 0; have hfz22_1 := blk_frozen BK109.out 1) | ((with_reducible refine gate_callee (f := 65) rfl ?_); refine goesL_ (some 36) rfl rfl Try.func65 (by kernel_rfl) rfl #[.slice A107_0 (rd_L19 t104 x23_1).length c107_0, .int .i64 ((rd_T27 l1 x29_2).fst)] rfl (by (try simp only [List.map_toArray, List.map_cons, List.map_nil]); first | done | rfl | (simp only [List.length_drop, List.length_take]; rfl)) ?_; (with_reducible refine (slices_Contains_int_int.calls k2 _ _ (rd_L19 t104 x23_1) ((rd_T27 l1 x29_2).fst) true _ ?side1 ?side2 A17.out).mono ?_); (case side1 => exact Kd.C_below HR107_0.out (by (with_reducible repeat (first | apply lA | apply lN | apply lD | refine lS ?_ GEr109.out)); exact below_step (by first | exact Below.refl _ _ | (repeat (first | apply lA | apply lN | apply lD); exact Below.refl _ _)) HBr109.out)); (case side2 => exact HC107_0.out); rintro e w' ⟨rfl, ⟨nd, rfl⟩⟩; refine ⟨_, rfl, ?_⟩) | (go_at_call 65; (with_reducible refine (slices_Contains_int_int.calls k2 _ _ (rd_L19 t104 x23_1) ((rd_T27 l1 x29_2).snd) true _ ?side1 ?side2 A19.out).mono ?_); (case side1 => exact Kd.C_below HR107_0.out (by (with_reducible repeat (first | apply lA | apply lN | apply lD | refine lS ?_ GEr109.out)); exact below_step (by first | exact Below.refl _ _ | (repeat (first | apply lA | apply lN | apply lD); exact Below.refl _ _)) HBr109.out)); (case side2 => exact HC107_0.out); rintro e w' ⟨rfl, ⟨nd, rfl⟩⟩))
               go_roundg k2
               case measure => have := HK1.out; have := HK2.out; omega
               case rel => exact ⟨(x10_2), (wrap64 (x29_2 + 1)), (by first | rfl | (simp; done) | (simp [*]; done)), (by first | rfl | (simp; done) | (simp [*]; done)), H', ⟨by have := HK1.out; have := HK2.out; omega⟩, ⟨by (with_reducible repeat (first | apply Ra | apply Rn | apply Rd)); exact Kd.R_mono (Kd.R_far (p := ⟨gb109, 1, none⟩) (Kd.R_far (p := ⟨gb109, 0, none⟩) (Kd.R_types HO_7.out BK109.out (by decide)) (fun _ hk => hk.2) _) (fun _ hk => hk.2) _) (fun _ hk => trivial)⟩, ⟨by (with_reducible repeat (first | apply Kd.S_alloc | apply Kd.S_drewN | apply Kd.S_drew)); exact Kd.S_mono (Kd.S_far (p := ⟨gb109, 1, none⟩) (Kd.S_far (p := ⟨gb109, 0, none⟩) (Kd.S_types HO_21.out BK109.out (by decide)) (fun _ hk => hk.2) _) (fun _ hk => hk.2) _) (fun _ hk => hk.1)⟩, ⟨by (with_reducible repeat (first | apply Kd.R_alloc | apply Kd.R_drewN | apply Kd.R_drew)); exact Kd.R_mono (Kd.R_far (p := ⟨gb109, 1, none⟩) (Kd.R_far (p := ⟨gb109, 0, none⟩) (Kd.R_types HL107_0.out BK109.out (by decide)) (fun _ hk => hk.2) _) (fun _ hk => hk.2) _) (fun _ hk => hk.1)⟩, ⟨by repeat (first | (with_reducible first | exact HB.out | apply lA | apply lN | apply lD | refine lS ?_ GE109.out) | exact HB.out)⟩⟩
              ·replace c20 := Bool.eq_false_iff.mpr c20
               subst c20
               have H1 : (if 0 ≤ ((rd_T27 l1 x29_2).snd) then (if ((rd_T27 l1 x29_2).snd) < (x7_1.length : Int) then (strata_levels.l1 k2 l1 l2 x7_1 (rd_L19 t104 x23_1) (mx x10_2 (rd x7_1 ((rd_T27 l1 x29_2).snd))) t104 (t104.length : Int) x23_1 l1 (l1.length : Int) (wrap64 (x29_2 + 1))) else (none)) else (none)) = some r := by rw [if_neg (show ¬ (false = true) by decide)] at H; exact H
               clear H
               have H := H1
               clear H1
               by_cases c23 : 0 ≤ ((rd_T27 l1 x29_2).snd)
               ·rw [if_pos c23] at H
                have c23b0 : decide (0 ≤ ((rd_T27 l1 x29_2).snd)) = true := decide_eq_true c23
                clear c23
                by_cases c24 : ((rd_T27 l1 x29_2).snd) < (x7_1.length : Int)
                ·rw [if_pos c24] at H
                 have c24b0 : decide (((rd_T27 l1 x29_2).snd) < (x7_1.length : Int)) = true := decide_eq_true c24
                 clear c24
                 obtain ⟨ji25, hji25⟩ : ∃ j_ : Int, (mx x10_2 (rd x7_1 ((rd_T27 l1 x29_2).snd))) = j_ := ⟨_, rfl⟩
                 replace H : (strata_levels.l1 k2 l1 l2 x7_1 (rd_L19 t104 x23_1) ji25 t104 (t104.length : Int) x23_1 l1 (l1.length : Int) (wrap64 (x29_2 + 1))) = some r := by first | (rw [hji25] at H; exact H) | (simp only [hji25] at H ⊢; exact H)
                 (try rw [hji25] at A17)
                 (try rw [hji25] at A19)
                 have hji25_ : (if x10_2 < (rd x7_1 ((rd_T27 l1 x29_2).snd)) then (rd x7_1 ((rd_T27 l1 x29_2).snd)) else x10_2) = ji25 := hji25
                 have H' := am H
                 clear H
                 have p108 : 0 ≤ (x29_2 : Int) := of_decide_eq_true (by first | (with_reducible assumption) | assumption)
                 have q108 : x29_2 < (l1.length : Int) := of_decide_eq_true (by first | (with_reducible assumption) | assumption)
                 obtain ⟨ad108, e108, hx108_0, hx108_1⟩ := at_T27 HR1.out x29_2 p108 q108
                 cases e108
                 (first | (replace hx108_0 := (HB.out.cell (blt_ hx108_0)).trans hx108_0) | skip)
                 replace hx108_1 := (HB.out.cell (blt_ hx108_1)).trans hx108_1
                 replace p108 := eq_true p108
                 replace q108 := eq_true q108
                 go_wp2_with (first | ((with_reducible refine gate_dst (N := 12) rfl ?_); refine box_event ?hg (N := 12) ?hd (cs := #[.int .i64 0, .int .i64 0]) (t := 27) ?hr ?_; (case hd => rfl); (case hg => rfl); (case hr => first | (go_simp; done) | (go_simp; rfl)); intro gb109 hg w26 hbox hb; have HBr109 := am hb; have GEr109 := am (Nat.le_of_eq hg.symm); replace HO_7 := am (Kd.R_below (by (with_reducible repeat (first | apply Ra | apply Rn | apply Rd)); exact HO_7.out) hb); replace HO_21 := am (Kd.S_below (by (with_reducible repeat (first | apply Kd.S_alloc | apply Kd.S_drewN | apply Kd.S_drew)); exact HO_21.out) hb); replace HL107_0 := am (Kd.R_below (by (with_reducible repeat (first | apply Kd.R_alloc | apply Kd.R_drewN | apply Kd.R_drew)); exact HL107_0.out) hb); have BK109 := am (hbox); have GW109 := am ((by rw [hg]; exact (below_size (by repeat (first | (with_reducible first | exact HB.out | apply lA | apply lN | apply lD) | exact HB.out))) : w.heap.size ≤ gb109)); have GE109 := am ((by rw [hg]; exact (below_size (by repeat (first | (with_reducible first | exact HB.out | apply lA | apply lN | apply lD) | exact HB.out))) : w.heap.size ≤ gb109)); replace HB := am (below_step (by repeat (first | (with_reducible first | exact HB.out | apply lA | apply lN | apply lD) | exact HB.out)) hb); clear hb hbox hg; have hcz27_0 : w26.cell? ⟨gb109, 0, none⟩ = some (.int .i64 0) := (blk_cell BK109.out 0).trans rfl; have hcz27_1 : w26.cell? ⟨gb109, 1, none⟩ = some (.int .i64 0) := (blk_cell BK109.out 1).trans rfl; have hfz27_0 := blk_frozen BK109.out 0; have hfz27_1 := blk_frozen BK109.out 1) | ((with_reducible refine gate_callee (f := 65) rfl ?_); refine goesL_ (some 36) rfl rfl Try.func65 (by kernel_rfl) rfl #[.slice A107_0 (rd_L19 t104 x23_1).length c107_0, .int .i64 ((rd_T27 l1 x29_2).fst)] rfl (by (try simp only [List.map_toArray, List.map_cons, List.map_nil]); first | done | rfl | (simp only [List.length_drop, List.length_take]; rfl)) ?_; (with_reducible refine (slices_Contains_int_int.calls k2 _ _ (rd_L19 t104 x23_1) ((rd_T27 l1 x29_2).fst) true _ ?side1 ?side2 A17.out).mono ?_); (case side1 => exact Kd.C_below HR107_0.out (by (with_reducible repeat (first | apply lA | apply lN | apply lD | refine lS ?_ GEr109.out)); exact below_step (by first | exact Below.refl _ _ | (repeat (first | apply lA | apply lN | apply lD); exact Below.refl _ _)) HBr109.out)); (case side2 => exact HC107_0.out); rintro e w' ⟨rfl, ⟨nd, rfl⟩⟩; refine ⟨_, rfl, ?_⟩) | (go_at_call 65; (with_reducible refine (slices_Contains_int_int.calls k2 _ _ (rd_L19 t104 x23_1) ((rd_T27 l1 x29_2).snd) false _ ?side1 ?side2 A19.out).mono ?_); (case side1 => exact Kd.C_below HR107_0.out (by (with_reducible repeat (first | apply lA | apply lN | apply lD | refine lS ?_ GEr109.out)); exact below_step (by first | exact Below.refl _ _ | (repeat (first | apply lA | apply lN | apply lD); exact Below.refl _ _)) HBr109.out)); (case side2 => exact HC107_0.out); rintro e w' ⟨rfl, ⟨nd, rfl⟩⟩; obtain ⟨Ao28, co28, eo28⟩ := Kd.R_slice HO_7.out; subst eo28; have p112 : 0 ≤ (((rd_T27 l1 x29_2).snd) : Int) := of_decide_eq_true (by first | (with_reducible assumption) | assumption); have q112 : ((rd_T27 l1 x29_2).snd) < (x7_1.length : Int) := of_decide_eq_true (by first | (with_reducible assumption) | assumption); obtain ⟨ad112, e112, hx112_0⟩ := Kd.at_int (Kd.R_reads' HO_7.out).2.2 ((rd_T27 l1 x29_2).snd) p112 q112; cases e112; have hn112_0 : ad112.block ≠ gb109 := Kd.own_blk (Kd.R_ne HO_7.out BK109.out (by decide)); have hn112_1 : ad112.block ≠ gb109 := Kd.own_blk (Kd.R_ne HO_7.out BK109.out (by decide)); replace hx112_0 := (cell_far (p := ⟨gb109, 0, none⟩) (by first | (rw [add_block]; exact hn112_0) | (show (Addr.add _ _).block ≠ _; rw [add_block]; exact hn112_0) | exact hn112_0) (.int .i64 ((rd_T27 l1 x29_2).fst))).trans hx112_0; replace hx112_0 := (cell_far (p := ⟨gb109, 1, none⟩) (by first | (rw [add_block]; exact hn112_1) | (show (Addr.add _ _).block ≠ _; rw [add_block]; exact hn112_1) | exact hn112_1) (.int .i64 ((rd_T27 l1 x29_2).snd))).trans hx112_0; clear hn112_0; clear hn112_1; replace p112 := eq_true p112; replace q112 := eq_true q112))
                 go_roundg k2
                 case measure => have := HK1.out; have := HK2.out; omega
                 case rel => exact ⟨(ji25), (wrap64 (x29_2 + 1)), (by first | rfl | (simp; done) | (simp only [← hji25] <;> (first | rfl | simp)) | (simp [*]; done)), (by first | rfl | (simp; done) | (simp [*]; done)), H', ⟨by have := HK1.out; have := HK2.out; omega⟩, ⟨by (with_reducible repeat (first | apply Ra | apply Rn | apply Rd)); exact Kd.R_mono (Kd.R_far (p := ⟨gb109, 1, none⟩) (Kd.R_far (p := ⟨gb109, 0, none⟩) (Kd.R_types HO_7.out BK109.out (by decide)) (fun _ hk => hk.2) _) (fun _ hk => hk.2) _) (fun _ hk => trivial)⟩, ⟨by (with_reducible repeat (first | apply Kd.S_alloc | apply Kd.S_drewN | apply Kd.S_drew)); exact Kd.S_mono (Kd.S_far (p := ⟨gb109, 1, none⟩) (Kd.S_far (p := ⟨gb109, 0, none⟩) (Kd.S_types HO_21.out BK109.out (by decide)) (fun _ hk => hk.2) _) (fun _ hk => hk.2) _) (fun _ hk => hk.1)⟩, ⟨by (with_reducible repeat (first | apply Kd.R_alloc | apply Kd.R_drewN | apply Kd.R_drew)); exact Kd.R_mono (Kd.R_far (p := ⟨gb109, 1, none⟩) (Kd.R_far (p := ⟨gb109, 0, none⟩) (Kd.R_types HL107_0.out BK109.out (by decide)) (fun _ hk => hk.2) _) (fun _ hk => hk.2) _) (fun _ hk => hk.1)⟩, ⟨by repeat (first | (with_reducible first | exact HB.out | apply lA | apply lN | apply lD | refine lS ?_ GE109.out) | exact HB.out)⟩⟩
                ·rw [if_neg c24] at H
                 exact absurd H (by simp)
               ·rw [if_neg c23] at H
                exact absurd H (by simp)
             ·replace c18 := Bool.eq_false_iff.mpr c18
              subst c18
              have H1 : (strata_levels.l1 k2 l1 l2 x7_1 (rd_L19 t104 x23_1) x10_2 t104 (t104.length : Int) x23_1 l1 (l1.length : Int) (wrap64 (x29_2 + 1))) = some r := by rw [if_neg (show ¬ (false = true) by decide)] at H; exact H
              clear H
              have H := H1
              clear H1
              have H' := am H
              clear H
              have p108 : 0 ≤ (x29_2 : Int) := of_decide_eq_true (by first | (with_reducible assumption) | assumption)
              have q108 : x29_2 < (l1.length : Int) := of_decide_eq_true (by first | (with_reducible assumption) | assumption)
              obtain ⟨ad108, e108, hx108_0, hx108_1⟩ := at_T27 HR1.out x29_2 p108 q108
              cases e108
              (first | (replace hx108_0 := (HB.out.cell (blt_ hx108_0)).trans hx108_0) | skip)
              replace hx108_1 := (HB.out.cell (blt_ hx108_1)).trans hx108_1
              replace p108 := eq_true p108
              replace q108 := eq_true q108
              go_wp2_with (first | ((with_reducible refine gate_dst (N := 12) rfl ?_); refine box_event ?hg (N := 12) ?hd (cs := #[.int .i64 0, .int .i64 0]) (t := 27) ?hr ?_; (case hd => rfl); (case hg => rfl); (case hr => first | (go_simp; done) | (go_simp; rfl)); intro gb109 hg w29 hbox hb; have HBr109 := am hb; have GEr109 := am (Nat.le_of_eq hg.symm); replace HO_7 := am (Kd.R_below (by (with_reducible repeat (first | apply Ra | apply Rn | apply Rd)); exact HO_7.out) hb); replace HO_21 := am (Kd.S_below (by (with_reducible repeat (first | apply Kd.S_alloc | apply Kd.S_drewN | apply Kd.S_drew)); exact HO_21.out) hb); replace HL107_0 := am (Kd.R_below (by (with_reducible repeat (first | apply Kd.R_alloc | apply Kd.R_drewN | apply Kd.R_drew)); exact HL107_0.out) hb); have BK109 := am (hbox); have GW109 := am ((by rw [hg]; exact (below_size (by repeat (first | (with_reducible first | exact HB.out | apply lA | apply lN | apply lD) | exact HB.out))) : w.heap.size ≤ gb109)); have GE109 := am ((by rw [hg]; exact (below_size (by repeat (first | (with_reducible first | exact HB.out | apply lA | apply lN | apply lD) | exact HB.out))) : w.heap.size ≤ gb109)); replace HB := am (below_step (by repeat (first | (with_reducible first | exact HB.out | apply lA | apply lN | apply lD) | exact HB.out)) hb); clear hb hbox hg; have hcz30_0 : w29.cell? ⟨gb109, 0, none⟩ = some (.int .i64 0) := (blk_cell BK109.out 0).trans rfl; have hcz30_1 : w29.cell? ⟨gb109, 1, none⟩ = some (.int .i64 0) := (blk_cell BK109.out 1).trans rfl; have hfz30_0 := blk_frozen BK109.out 0; have hfz30_1 := blk_frozen BK109.out 1) | ((with_reducible refine gate_callee (f := 65) rfl ?_); refine goesL_ (some 36) rfl rfl Try.func65 (by kernel_rfl) rfl #[.slice A107_0 (rd_L19 t104 x23_1).length c107_0, .int .i64 ((rd_T27 l1 x29_2).fst)] rfl (by (try simp only [List.map_toArray, List.map_cons, List.map_nil]); first | done | rfl | (simp only [List.length_drop, List.length_take]; rfl)) ?_; (with_reducible refine (slices_Contains_int_int.calls k2 _ _ (rd_L19 t104 x23_1) ((rd_T27 l1 x29_2).fst) false _ ?side1 ?side2 A17.out).mono ?_); (case side1 => exact Kd.C_below HR107_0.out (by (with_reducible repeat (first | apply lA | apply lN | apply lD | refine lS ?_ GEr109.out)); exact below_step (by first | exact Below.refl _ _ | (repeat (first | apply lA | apply lN | apply lD); exact Below.refl _ _)) HBr109.out)); (case side2 => exact HC107_0.out); rintro e w' ⟨rfl, ⟨nd, rfl⟩⟩; refine ⟨_, rfl, ?_⟩))
              go_roundg k2
              case measure => have := HK1.out; have := HK2.out; omega
              case rel => exact ⟨(x10_2), (wrap64 (x29_2 + 1)), (by first | rfl | (simp; done) | (simp [*]; done)), (by first | rfl | (simp; done) | (simp [*]; done)), H', ⟨by have := HK1.out; have := HK2.out; omega⟩, ⟨by (with_reducible repeat (first | apply Ra | apply Rn | apply Rd)); exact Kd.R_mono (Kd.R_far (p := ⟨gb109, 1, none⟩) (Kd.R_far (p := ⟨gb109, 0, none⟩) (Kd.R_types HO_7.out BK109.out (by decide)) (fun _ hk => hk.2) _) (fun _ hk => hk.2) _) (fun _ hk => trivial)⟩, ⟨by (with_reducible repeat (first | apply Kd.S_alloc | apply Kd.S_drewN | apply Kd.S_drew)); exact Kd.S_mono (Kd.S_far (p := ⟨gb109, 1, none⟩) (Kd.S_far (p := ⟨gb109, 0, none⟩) (Kd.S_types HO_21.out BK109.out (by decide)) (fun _ hk => hk.2) _) (fun _ hk => hk.2) _) (fun _ hk => hk.1)⟩, ⟨by (with_reducible repeat (first | apply Kd.R_alloc | apply Kd.R_drewN | apply Kd.R_drew)); exact Kd.R_mono (Kd.R_far (p := ⟨gb109, 1, none⟩) (Kd.R_far (p := ⟨gb109, 0, none⟩) (Kd.R_types HL107_0.out BK109.out (by decide)) (fun _ hk => hk.2) _) (fun _ hk => hk.2) _) (fun _ hk => hk.1)⟩, ⟨by repeat (first | (with_reducible first | exact HB.out | apply lA | apply lN | apply lD | refine lS ?_ GE109.out) | exact HB.out)⟩⟩
            ·rw [if_neg c16] at H
             exact absurd H (by simp)
           ·rw [if_neg c15] at H
            exact absurd H (by simp)
          ·rw [if_neg c14] at H
           have c14b0 : decide (x29_2 < (l1.length : Int)) = false := decide_eq_false c14
           clear c14
           have H' := am H
           clear H
           go_wp2
           go_loopg [10, 54] k2 (fun kq v10 v54 w' => ∃ (x10_3 : Int) (x54_3 : Int), v10 = .int .i64 x10_3 ∧ v54 = .int .i64 x54_3 ∧ Aside0 (strata_levels.l2 kq l1 l2 x7_1 (rd_L19 t104 x23_1) x10_3 t104 (t104.length : Int) x23_1 l2 (l2.length : Int) x54_3 = some r) ∧ Aside0 (kq ≤ k2) ∧ Aside0 (Kd.R (Kd.int .i64) 3 w' w.heap.size (fun _ => True) v102 x7_1) ∧ Aside0 (Kd.S (Kd.slice 3 (Kd.int .i64)) 35 w' w.heap.size (fun k_ => some k_ ≠ (v102 : Value).ownBlock) (.slice (some ad107) t104.length co10) t104) ∧ Aside0 (Kd.R (Kd.int .i64) 3 w' w.heap.size (fun k_ => some k_ ≠ (v102 : Value).ownBlock) (.slice A107_0 (rd_L19 t104 x23_1).length c107_0) (rd_L19 t104 x23_1)) ∧ Aside0 (Below w.heap.size w w'))
           case atStart => exact ⟨(x10_2), (0), (by first | rfl | (simp; done) | (simp [*]; done)), (by first | rfl | (simp; done) | (simp [*]; done)), H', ⟨Nat.le_refl _⟩, ⟨by (with_reducible repeat (first | apply Ra | apply Rn | apply Rd)); exact HO_7.out⟩, ⟨by (with_reducible repeat (first | apply Kd.S_alloc | apply Kd.S_drewN | apply Kd.S_drew)); exact HO_21.out⟩, ⟨by (with_reducible repeat (first | apply Kd.R_alloc | apply Kd.R_drewN | apply Kd.R_drew)); exact HL107_0.out⟩, ⟨by repeat (first | (with_reducible first | exact HB.out | apply lA | apply lN | apply lD) | exact HB.out)⟩⟩
           case round =>
            clear H'
            try clear c1
            try clear p1
            try clear q1
            try clear hx1
            try clear c2
            try clear p2
            try clear c4
            try clear c4b0
            try clear c4b1
            try clear c5
            try clear c5b0
            try clear c5b1
            try clear c6
            try clear p6
            try clear c10
            try clear p10
            try clear q10
            try clear hx10
            try clear c11
            try clear c11b0
            try clear p11
            try clear q11
            try clear hx11
            try clear c12
            try clear c12b0
            try clear c13
            try clear c13b0
            try clear c14
            try clear c14b0
            try clear c15
            try clear c15b0
            try clear c16
            try clear c16b0
            try clear c18
            try clear c20
            try clear c23
            try clear c23b0
            try clear c24
            try clear c24b0
            try clear hcz22_0
            try clear hcz22_1
            try clear hcz27_0
            try clear hcz27_1
            try clear hcz30_0
            try clear hcz30_1
            try clear hfz22_0
            try clear hfz22_1
            try clear hfz27_0
            try clear hfz27_1
            try clear hfz30_0
            try clear hfz30_1
            try clear hx107_0
            try clear hx108_0
            try clear hx108_1
            try clear hx112_0
            try clear p1
            try clear p10
            try clear p107
            try clear p108
            try clear p112
            try clear p2
            try clear q1
            try clear q10
            try clear q107
            try clear q108
            try clear q112
            obtain ⟨x10_3, x54_3, rfl, rfl, HA, HK3, HO_7, HO_21, HL107_0, HB⟩ := hrel
            have HR107_0 := am (Kd.R_reads' HL107_0.out).2.2
            cases gk with
            | zero => exact absurd HA.out (by simp [strata_levels.l2])
            | succ k3 =>
             have H := HA.out
             clear HA
             simp only [strata_levels.l2] at H
             by_cases c31 : x54_3 < (l2.length : Int)
             ·rw [if_pos c31] at H
              have c31b0 : decide (x54_3 < (l2.length : Int)) = true := decide_eq_true c31
              clear c31
              by_cases c32 : 0 ≤ x54_3
              ·rw [if_pos c32] at H
               have c32b0 : decide (0 ≤ x54_3) = true := decide_eq_true c32
               clear c32
               by_cases c33 : x54_3 < (l2.length : Int)
               ·rw [if_pos c33] at H
                have c33b0 : decide (x54_3 < (l2.length : Int)) = true := decide_eq_true c33
                clear c33
                replace H := Option.bind_eq_some_iff.mp H
                obtain ⟨t115, A340, H⟩ := H
                replace H : (if t115 = true then (if 0 ≤ ((rd_T27 l2 x54_3).snd) then (if ((rd_T27 l2 x54_3).snd) < (x7_1.length : Int) then (strata_levels.l2 k3 l1 l2 x7_1 (rd_L19 t104 x23_1) (mx x10_3 (wrap64 ((rd x7_1 ((rd_T27 l2 x54_3).snd)) + 1))) t104 (t104.length : Int) x23_1 l2 (l2.length : Int) (wrap64 (x54_3 + 1))) else (none)) else (none)) else (strata_levels.l2 k3 l1 l2 x7_1 (rd_L19 t104 x23_1) x10_3 t104 (t104.length : Int) x23_1 l2 (l2.length : Int) (wrap64 (x54_3 + 1)))) = some r := H
                have A34 := am A340
                clear A340
                by_cases c35 : t115 = true
                ·subst c35
                 have H1 : (if 0 ≤ ((rd_T27 l2 x54_3).snd) then (if ((rd_T27 l2 x54_3).snd) < (x7_1.length : Int) then (strata_levels.l2 k3 l1 l2 x7_1 (rd_L19 t104 x23_1) (mx x10_3 (wrap64 ((rd x7_1 ((rd_T27 l2 x54_3).snd)) + 1))) t104 (t104.length : Int) x23_1 l2 (l2.length : Int) (wrap64 (x54_3 + 1))) else (none)) else (none)) = some r := by rw [if_pos rfl] at H; exact H
                 clear H
                 have H := H1
                 clear H1
                 by_cases c36 : 0 ≤ ((rd_T27 l2 x54_3).snd)
                 ·rw [if_pos c36] at H
                  have c36b0 : decide (0 ≤ ((rd_T27 l2 x54_3).snd)) = true := decide_eq_true c36
                  clear c36
                  by_cases c37 : ((rd_T27 l2 x54_3).snd) < (x7_1.length : Int)
                  ·rw [if_pos c37] at H
                   have c37b0 : decide (((rd_T27 l2 x54_3).snd) < (x7_1.length : Int)) = true := decide_eq_true c37
                   clear c37
                   obtain ⟨ji38, hji38⟩ : ∃ j_ : Int, (mx x10_3 (wrap64 ((rd x7_1 ((rd_T27 l2 x54_3).snd)) + 1))) = j_ := ⟨_, rfl⟩
                   replace H : (strata_levels.l2 k3 l1 l2 x7_1 (rd_L19 t104 x23_1) ji38 t104 (t104.length : Int) x23_1 l2 (l2.length : Int) (wrap64 (x54_3 + 1))) = some r := by first | (rw [hji38] at H; exact H) | (simp only [hji38] at H ⊢; exact H)
                   (try rw [hji38] at A34)
                   have hji38_ : (if x10_3 < (wrap64 ((rd x7_1 ((rd_T27 l2 x54_3).snd)) + 1)) then (wrap64 ((rd x7_1 ((rd_T27 l2 x54_3).snd)) + 1)) else x10_3) = ji38 := hji38
                   have H' := am H
                   clear H
                   have p113 : 0 ≤ (x54_3 : Int) := of_decide_eq_true (by first | (with_reducible assumption) | assumption)
                   have q113 : x54_3 < (l2.length : Int) := of_decide_eq_true (by first | (with_reducible assumption) | assumption)
                   obtain ⟨ad113, e113, hx113_0, hx113_1⟩ := at_T27 HR2.out x54_3 p113 q113
                   cases e113
                   (first | (replace hx113_0 := (HB.out.cell (blt_ hx113_0)).trans hx113_0) | skip)
                   replace hx113_1 := (HB.out.cell (blt_ hx113_1)).trans hx113_1
                   replace p113 := eq_true p113
                   replace q113 := eq_true q113
                   go_wp2_with (first | ((with_reducible refine gate_dst (N := 14) rfl ?_); refine box_event ?hg (N := 14) ?hd (cs := #[.int .i64 0, .int .i64 0]) (t := 27) ?hr ?_; (case hd => rfl); (case hg => rfl); (case hr => first | (go_simp; done) | (go_simp; rfl)); intro gb114 hg w39 hbox hb; have HBr114 := am hb; have GEr114 := am (Nat.le_of_eq hg.symm); replace HO_7 := am (Kd.R_below (by (with_reducible repeat (first | apply Ra | apply Rn | apply Rd)); exact HO_7.out) hb); replace HO_21 := am (Kd.S_below (by (with_reducible repeat (first | apply Kd.S_alloc | apply Kd.S_drewN | apply Kd.S_drew)); exact HO_21.out) hb); replace HL107_0 := am (Kd.R_below (by (with_reducible repeat (first | apply Kd.R_alloc | apply Kd.R_drewN | apply Kd.R_drew)); exact HL107_0.out) hb); have BK114 := am (hbox); have GW114 := am ((by rw [hg]; exact (below_size (by repeat (first | (with_reducible first | exact HB.out | apply lA | apply lN | apply lD) | exact HB.out))) : w.heap.size ≤ gb114)); have GE114 := am ((by rw [hg]; exact (below_size (by repeat (first | (with_reducible first | exact HB.out | apply lA | apply lN | apply lD) | exact HB.out))) : w.heap.size ≤ gb114)); replace HB := am (below_step (by repeat (first | (with_reducible first | exact HB.out | apply lA | apply lN | apply lD) | exact HB.out)) hb); clear hb hbox hg; have hcz40_0 : w39.cell? ⟨gb114, 0, none⟩ = some (.int .i64 0) := (blk_cell BK114.out 0).trans rfl; have hcz40_1 : w39.cell? ⟨gb114, 1, none⟩ = some (.int .i64 0) := (blk_cell BK114.out 1).trans rfl; have hfz40_0 := blk_frozen BK114.out 0; have hfz40_1 := blk_frozen BK114.out 1) | ((with_reducible refine gate_callee (f := 65) rfl ?_); refine goesL_ (some 61) rfl rfl Try.func65 (by kernel_rfl) rfl #[.slice A107_0 (rd_L19 t104 x23_1).length c107_0, .int .i64 ((rd_T27 l2 x54_3).fst)] rfl (by (try simp only [List.map_toArray, List.map_cons, List.map_nil]); first | done | rfl | (simp only [List.length_drop, List.length_take]; rfl)) ?_; (with_reducible refine (slices_Contains_int_int.calls k3 _ _ (rd_L19 t104 x23_1) ((rd_T27 l2 x54_3).fst) true _ ?side1 ?side2 A34.out).mono ?_); (case side1 => exact Kd.C_below HR107_0.out (by (with_reducible repeat (first | apply lA | apply lN | apply lD | refine lS ?_ GEr114.out)); exact below_step (by first | exact Below.refl _ _ | (repeat (first | apply lA | apply lN | apply lD); exact Below.refl _ _)) HBr114.out)); (case side2 => exact HC107_0.out); rintro e w' ⟨rfl, ⟨nd, rfl⟩⟩; refine ⟨_, rfl, ?_⟩; obtain ⟨Ao41, co41, eo41⟩ := Kd.R_slice HO_7.out; subst eo41; have p116 : 0 ≤ (((rd_T27 l2 x54_3).snd) : Int) := of_decide_eq_true (by first | (with_reducible assumption) | assumption); have q116 : ((rd_T27 l2 x54_3).snd) < (x7_1.length : Int) := of_decide_eq_true (by first | (with_reducible assumption) | assumption); obtain ⟨ad116, e116, hx116_0⟩ := Kd.at_int (Kd.R_reads' HO_7.out).2.2 ((rd_T27 l2 x54_3).snd) p116 q116; cases e116; have hn116_0 : ad116.block ≠ gb114 := Kd.own_blk (Kd.R_ne HO_7.out BK114.out (by decide)); have hn116_1 : ad116.block ≠ gb114 := Kd.own_blk (Kd.R_ne HO_7.out BK114.out (by decide)); replace hx116_0 := (cell_far (p := ⟨gb114, 0, none⟩) (by first | (rw [add_block]; exact hn116_0) | (show (Addr.add _ _).block ≠ _; rw [add_block]; exact hn116_0) | exact hn116_0) (.int .i64 ((rd_T27 l2 x54_3).fst))).trans hx116_0; replace hx116_0 := (cell_far (p := ⟨gb114, 1, none⟩) (by first | (rw [add_block]; exact hn116_1) | (show (Addr.add _ _).block ≠ _; rw [add_block]; exact hn116_1) | exact hn116_1) (.int .i64 ((rd_T27 l2 x54_3).snd))).trans hx116_0; clear hn116_0; clear hn116_1; replace p116 := eq_true p116; replace q116 := eq_true q116))
                   go_roundg k3
                   case measure => have := HK1.out; have := HK2.out; have := HK3.out; omega
                   case rel => exact ⟨(ji38), (wrap64 (x54_3 + 1)), (by first | rfl | (simp; done) | (simp only [← hji38] <;> (first | rfl | simp)) | (simp [*]; done)), (by first | rfl | (simp; done) | (simp [*]; done)), H', ⟨by have := HK1.out; have := HK2.out; have := HK3.out; omega⟩, ⟨by (with_reducible repeat (first | apply Ra | apply Rn | apply Rd)); exact Kd.R_mono (Kd.R_far (p := ⟨gb114, 1, none⟩) (Kd.R_far (p := ⟨gb114, 0, none⟩) (Kd.R_types HO_7.out BK114.out (by decide)) (fun _ hk => hk.2) _) (fun _ hk => hk.2) _) (fun _ hk => trivial)⟩, ⟨by (with_reducible repeat (first | apply Kd.S_alloc | apply Kd.S_drewN | apply Kd.S_drew)); exact Kd.S_mono (Kd.S_far (p := ⟨gb114, 1, none⟩) (Kd.S_far (p := ⟨gb114, 0, none⟩) (Kd.S_types HO_21.out BK114.out (by decide)) (fun _ hk => hk.2) _) (fun _ hk => hk.2) _) (fun _ hk => hk.1)⟩, ⟨by (with_reducible repeat (first | apply Kd.R_alloc | apply Kd.R_drewN | apply Kd.R_drew)); exact Kd.R_mono (Kd.R_far (p := ⟨gb114, 1, none⟩) (Kd.R_far (p := ⟨gb114, 0, none⟩) (Kd.R_types HL107_0.out BK114.out (by decide)) (fun _ hk => hk.2) _) (fun _ hk => hk.2) _) (fun _ hk => hk.1)⟩, ⟨by repeat (first | (with_reducible first | exact HB.out | apply lA | apply lN | apply lD | refine lS ?_ GE114.out) | exact HB.out)⟩⟩
                  ·rw [if_neg c37] at H
                   exact absurd H (by simp)
                 ·rw [if_neg c36] at H
                  exact absurd H (by simp)
                ·replace c35 := Bool.eq_false_iff.mpr c35
                 subst c35
                 have H1 : (strata_levels.l2 k3 l1 l2 x7_1 (rd_L19 t104 x23_1) x10_3 t104 (t104.length : Int) x23_1 l2 (l2.length : Int) (wrap64 (x54_3 + 1))) = some r := by rw [if_neg (show ¬ (false = true) by decide)] at H; exact H
                 clear H
                 have H := H1
                 clear H1
                 have H' := am H
                 clear H
                 have p113 : 0 ≤ (x54_3 : Int) := of_decide_eq_true (by first | (with_reducible assumption) | assumption)
                 have q113 : x54_3 < (l2.length : Int) := of_decide_eq_true (by first | (with_reducible assumption) | assumption)
                 obtain ⟨ad113, e113, hx113_0, hx113_1⟩ := at_T27 HR2.out x54_3 p113 q113
                 cases e113
                 (first | (replace hx113_0 := (HB.out.cell (blt_ hx113_0)).trans hx113_0) | skip)
                 replace hx113_1 := (HB.out.cell (blt_ hx113_1)).trans hx113_1
                 replace p113 := eq_true p113
                 replace q113 := eq_true q113
                 go_wp2_with (first | ((with_reducible refine gate_dst (N := 14) rfl ?_); refine box_event ?hg (N := 14) ?hd (cs := #[.int .i64 0, .int .i64 0]) (t := 27) ?hr ?_; (case hd => rfl); (case hg => rfl); (case hr => first | (go_simp; done) | (go_simp; rfl)); intro gb114 hg w42 hbox hb; have HBr114 := am hb; have GEr114 := am (Nat.le_of_eq hg.symm); replace HO_7 := am (Kd.R_below (by (with_reducible repeat (first | apply Ra | apply Rn | apply Rd)); exact HO_7.out) hb); replace HO_21 := am (Kd.S_below (by (with_reducible repeat (first | apply Kd.S_alloc | apply Kd.S_drewN | apply Kd.S_drew)); exact HO_21.out) hb); replace HL107_0 := am (Kd.R_below (by (with_reducible repeat (first | apply Kd.R_alloc | apply Kd.R_drewN | apply Kd.R_drew)); exact HL107_0.out) hb); have BK114 := am (hbox); have GW114 := am ((by rw [hg]; exact (below_size (by repeat (first | (with_reducible first | exact HB.out | apply lA | apply lN | apply lD) | exact HB.out))) : w.heap.size ≤ gb114)); have GE114 := am ((by rw [hg]; exact (below_size (by repeat (first | (with_reducible first | exact HB.out | apply lA | apply lN | apply lD) | exact HB.out))) : w.heap.size ≤ gb114)); replace HB := am (below_step (by repeat (first | (with_reducible first | exact HB.out | apply lA | apply lN | apply lD) | exact HB.out)) hb); clear hb hbox hg; have hcz43_0 : w42.cell? ⟨gb114, 0, none⟩ = some (.int .i64 0) := (blk_cell BK114.out 0).trans rfl; have hcz43_1 : w42.cell? ⟨gb114, 1, none⟩ = some (.int .i64 0) := (blk_cell BK114.out 1).trans rfl; have hfz43_0 := blk_frozen BK114.out 0; have hfz43_1 := blk_frozen BK114.out 1) | ((with_reducible refine gate_callee (f := 65) rfl ?_); refine goesL_ (some 61) rfl rfl Try.func65 (by kernel_rfl) rfl #[.slice A107_0 (rd_L19 t104 x23_1).length c107_0, .int .i64 ((rd_T27 l2 x54_3).fst)] rfl (by (try simp only [List.map_toArray, List.map_cons, List.map_nil]); first | done | rfl | (simp only [List.length_drop, List.length_take]; rfl)) ?_; (with_reducible refine (slices_Contains_int_int.calls k3 _ _ (rd_L19 t104 x23_1) ((rd_T27 l2 x54_3).fst) false _ ?side1 ?side2 A34.out).mono ?_); (case side1 => exact Kd.C_below HR107_0.out (by (with_reducible repeat (first | apply lA | apply lN | apply lD | refine lS ?_ GEr114.out)); exact below_step (by first | exact Below.refl _ _ | (repeat (first | apply lA | apply lN | apply lD); exact Below.refl _ _)) HBr114.out)); (case side2 => exact HC107_0.out); rintro e w' ⟨rfl, ⟨nd, rfl⟩⟩; refine ⟨_, rfl, ?_⟩))
                 go_roundg k3
                 case measure => have := HK1.out; have := HK2.out; have := HK3.out; omega
                 case rel => exact ⟨(x10_3), (wrap64 (x54_3 + 1)), (by first | rfl | (simp; done) | (simp [*]; done)), (by first | rfl | (simp; done) | (simp [*]; done)), H', ⟨by have := HK1.out; have := HK2.out; have := HK3.out; omega⟩, ⟨by (with_reducible repeat (first | apply Ra | apply Rn | apply Rd)); exact Kd.R_mono (Kd.R_far (p := ⟨gb114, 1, none⟩) (Kd.R_far (p := ⟨gb114, 0, none⟩) (Kd.R_types HO_7.out BK114.out (by decide)) (fun _ hk => hk.2) _) (fun _ hk => hk.2) _) (fun _ hk => trivial)⟩, ⟨by (with_reducible repeat (first | apply Kd.S_alloc | apply Kd.S_drewN | apply Kd.S_drew)); exact Kd.S_mono (Kd.S_far (p := ⟨gb114, 1, none⟩) (Kd.S_far (p := ⟨gb114, 0, none⟩) (Kd.S_types HO_21.out BK114.out (by decide)) (fun _ hk => hk.2) _) (fun _ hk => hk.2) _) (fun _ hk => hk.1)⟩, ⟨by (with_reducible repeat (first | apply Kd.R_alloc | apply Kd.R_drewN | apply Kd.R_drew)); exact Kd.R_mono (Kd.R_far (p := ⟨gb114, 1, none⟩) (Kd.R_far (p := ⟨gb114, 0, none⟩) (Kd.R_types HL107_0.out BK114.out (by decide)) (fun _ hk => hk.2) _) (fun _ hk => hk.2) _) (fun _ hk => hk.1)⟩, ⟨by repeat (first | (with_reducible first | exact HB.out | apply lA | apply lN | apply lD | refine lS ?_ GE114.out) | exact HB.out)⟩⟩
               ·rw [if_neg c33] at H
                exact absurd H (by simp)
              ·rw [if_neg c32] at H
               exact absurd H (by simp)
             ·rw [if_neg c31] at H
              have c31b0 : decide (x54_3 < (l2.length : Int)) = false := decide_eq_false c31
              clear c31
              have H' := am H
              clear H
              go_wp2
              go_loopg [73] k3 (fun kq v73 w' => ∃ (x7_4 : List Int) (x73_4 : Int), v73 = .int .i64 x73_4 ∧ Aside0 (strata_levels.l3 kq l1 l2 x7_4 x10_3 t104 (t104.length : Int) x23_1 (rd_L19 t104 x23_1) ((rd_L19 t104 x23_1).length : Int) x73_4 = some r) ∧ Aside0 (kq ≤ k3) ∧ Aside0 (Kd.R (Kd.int .i64) 3 w' w.heap.size (fun _ => True) v102 x7_4) ∧ Aside0 (Kd.S (Kd.slice 3 (Kd.int .i64)) 35 w' w.heap.size (fun k_ => some k_ ≠ (v102 : Value).ownBlock) (.slice (some ad107) t104.length co10) t104) ∧ Aside0 (Kd.R (Kd.int .i64) 3 w' w.heap.size (fun k_ => some k_ ≠ (v102 : Value).ownBlock) (.slice A107_0 (rd_L19 t104 x23_1).length c107_0) (rd_L19 t104 x23_1)) ∧ Aside0 (Below w.heap.size w w'))
              case atStart => exact ⟨(x7_1), (0), (by first | rfl | (simp; done) | (simp [*]; done)), H', ⟨Nat.le_refl _⟩, ⟨by (with_reducible repeat (first | apply Ra | apply Rn | apply Rd)); exact HO_7.out⟩, ⟨by (with_reducible repeat (first | apply Kd.S_alloc | apply Kd.S_drewN | apply Kd.S_drew)); exact HO_21.out⟩, ⟨by (with_reducible repeat (first | apply Kd.R_alloc | apply Kd.R_drewN | apply Kd.R_drew)); exact HL107_0.out⟩, ⟨by repeat (first | (with_reducible first | exact HB.out | apply lA | apply lN | apply lD) | exact HB.out)⟩⟩
              case round =>
               clear H'
               try clear c1
               try clear p1
               try clear q1
               try clear hx1
               try clear c2
               try clear p2
               try clear c3
               try clear c4
               try clear c4b0
               try clear c4b1
               try clear c5
               try clear c5b0
               try clear c5b1
               try clear c6
               try clear p6
               try clear c10
               try clear p10
               try clear q10
               try clear hx10
               try clear c11
               try clear c11b0
               try clear p11
               try clear q11
               try clear hx11
               try clear c12
               try clear c12b0
               try clear c13
               try clear c13b0
               try clear c14
               try clear c14b0
               try clear c15
               try clear c15b0
               try clear c16
               try clear c16b0
               try clear c18
               try clear c20
               try clear c23
               try clear c23b0
               try clear c24
               try clear c24b0
               try clear c31
               try clear c31b0
               try clear c32
               try clear c32b0
               try clear c33
               try clear c33b0
               try clear c35
               try clear c36
               try clear c36b0
               try clear c37
               try clear c37b0
               try clear hcz22_0
               try clear hcz22_1
               try clear hcz27_0
               try clear hcz27_1
               try clear hcz30_0
               try clear hcz30_1
               try clear hcz40_0
               try clear hcz40_1
               try clear hcz43_0
               try clear hcz43_1
               try clear hfz22_0
               try clear hfz22_1
               try clear hfz27_0
               try clear hfz27_1
               try clear hfz30_0
               try clear hfz30_1
               try clear hfz40_0
               try clear hfz40_1
               try clear hfz43_0
               try clear hfz43_1
               try clear hx107_0
               try clear hx108_0
               try clear hx108_1
               try clear hx112_0
               try clear hx113_0
               try clear hx113_1
               try clear hx116_0
               try clear p1
               try clear p10
               try clear p107
               try clear p108
               try clear p11
               try clear p112
               try clear p113
               try clear p116
               try clear p2
               try clear p6
               try clear q1
               try clear q10
               try clear q107
               try clear q108
               try clear q11
               try clear q112
               try clear q113
               try clear q116
               obtain ⟨x7_4, x73_4, rfl, HA, HK4, HO_7, HO_21, HL107_0, HB⟩ := hrel
               have HR107_0 := am (Kd.R_reads' HL107_0.out).2.2
               cases gk with
               | zero => exact absurd HA.out (by simp [strata_levels.l3])
               | succ k4 =>
                have H := HA.out
                clear HA
                simp only [strata_levels.l3] at H
                by_cases c44 : x73_4 < ((rd_L19 t104 x23_1).length : Int)
                ·rw [if_pos c44] at H
                 have c44b0 : decide (x73_4 < ((rd_L19 t104 x23_1).length : Int)) = true := decide_eq_true c44
                 clear c44
                 by_cases c45 : 0 ≤ x73_4
                 ·rw [if_pos c45] at H
                  have c45b0 : decide (0 ≤ x73_4) = true := decide_eq_true c45
                  clear c45
                  by_cases c46 : x73_4 < ((rd_L19 t104 x23_1).length : Int)
                  ·rw [if_pos c46] at H
                   have c46b0 : decide (x73_4 < ((rd_L19 t104 x23_1).length : Int)) = true := decide_eq_true c46
                   clear c46
                   by_cases c47 : 0 ≤ (rd (rd_L19 t104 x23_1) x73_4)
                   ·rw [if_pos c47] at H
                    have c47b0 : decide (0 ≤ (rd (rd_L19 t104 x23_1) x73_4)) = true := decide_eq_true c47
                    clear c47
                    by_cases c48 : (rd (rd_L19 t104 x23_1) x73_4) < (x7_4.length : Int)
                    ·rw [if_pos c48] at H
                     have c48b0 : decide ((rd (rd_L19 t104 x23_1) x73_4) < (x7_4.length : Int)) = true := decide_eq_true c48
                     clear c48
                     obtain ⟨y118, hy118⟩ : ∃ y_ : List Int, y_ = (x7_4.set ((rd (rd_L19 t104 x23_1) x73_4) : Int).toNat x10_3) := ⟨_, rfl⟩
                     replace H : (strata_levels.l3 k4 l1 l2 y118 x10_3 t104 (t104.length : Int) x23_1 (rd_L19 t104 x23_1) ((rd_L19 t104 x23_1).length : Int) (wrap64 (x73_4 + 1))) = some r := by first | (rw [hy118]; with_reducible exact H) | (have H2_ := (Option.bind_some _ _).symm.trans H; rw [hy118]; with_reducible exact H2_) | (have H2_ := (Option.bind_some _ _).symm.trans H; with_reducible exact H2_) | with_reducible exact H | (rw [hy118]; exact H) | exact H
                     have Ny118 := am hy118
                     clear hy118
                     have H' := am H
                     clear H
                     have p117 : 0 ≤ (x73_4 : Int) := of_decide_eq_true (by first | (with_reducible assumption) | assumption)
                     have q117 : x73_4 < ((rd_L19 t104 x23_1).length : Int) := of_decide_eq_true (by first | (with_reducible assumption) | assumption)
                     obtain ⟨ad117, e117, hx117_0⟩ := Kd.at_int HR107_0.out x73_4 p117 q117
                     cases e117
                     (first | (replace hx117_0 := (HB.out.cell (blt_ hx117_0)).trans hx117_0) | skip)
                     replace p117 := eq_true p117
                     replace q117 := eq_true q117
                     have p49 : 0 ≤ ((rd (rd_L19 t104 x23_1) x73_4) : Int) := of_decide_eq_true (by first | (with_reducible assumption) | assumption)
                     have q49 : ((rd (rd_L19 t104 x23_1) x73_4) : Int) < ((x7_4.length : Int) : Int) := of_decide_eq_true (by first | (with_reducible assumption) | assumption)
                     obtain ⟨go49, co49, eo49, gb49, gl49, cl49, HG49⟩ := Kd.R_form HO_7.out (by omega)
                     (first | cases eo49 | (injection eo49 with ea_ en_ ec_; (first | subst ea_ | (injection ea_ with ea_; subst ea_)); subst ec_; clear en_))
                     have GB49 := am gb49
                     have GG49 := am HG49
                     clear gb49 gl49 HG49
                     obtain ⟨hx49_0, hf49_0⟩ := Kd.R_celln 0 HO_7.out ((rd (rd_L19 t104 x23_1) x73_4) : Int) p49 q49
                     replace p49 := eq_true p49
                     replace q49 := eq_true q49
                     have HP50 := Kd.R_putg HO_7.out ((rd (rd_L19 t104 x23_1) x73_4) : Int) x10_3
                     go_wp2_with (first | ((with_reducible refine gate_store (t := 3) (p := 80) rfl ?_); refine store_event (t := 3) (p := 80) (v := ?vo_w51) (w1 := (wr.setCell ⟨go49, ((rd (rd_L19 t104 x23_1) x73_4) : Int).toNat, none⟩ (.int .i64 x10_3))) ?hg ?ho ?hn ?hr ?_; (case ho => rfl); (case hg => rfl); (case hn => rfl); (case hr => first | (go_simp; done) | (go_simp; rfl)); intro w51 hw; have hg : wr.grownBy w51 (some go49) := (by rw [hw]; exact HP50.2); have hp_ : Kd.R (Kd.int .i64) 3 w51 w.heap.size (fun _ => True) (.slice (some ⟨go49, 0, none⟩) x7_4.length co49) y118 := (by rw [hw, Ny118.out]; exact HP50.1); clear HP50; replace HO_7 := am (hp_); replace HO_21 := am (Kd.S_after (v := (.slice (some ⟨go49, 0, none⟩) x7_4.length co49)) (v1 := (.slice (some ⟨go49, 0, none⟩) x7_4.length co49)) (ok := (fun _ => True)) (by (with_reducible repeat (first | apply Kd.S_alloc | apply Kd.S_drewN | apply Kd.S_drew)); exact Kd.S_mono HO_21.out (fun _ hk => ⟨trivial, hk⟩)) hg (.inl rfl)); replace HL107_0 := am (Kd.R_after (v := (.slice (some ⟨go49, 0, none⟩) x7_4.length co49)) (v1 := (.slice (some ⟨go49, 0, none⟩) x7_4.length co49)) (ok := (fun _ => True)) (by (with_reducible repeat (first | apply Kd.R_alloc | apply Kd.R_drewN | apply Kd.R_drew)); exact Kd.R_mono HL107_0.out (fun _ hk => ⟨trivial, hk⟩)) hg (.inl rfl)); replace HB := am ((by rw [hw]; exact below_set (HB.out) GB49.out : Below w.heap.size w w51)); clear hg hw hp_))
                     go_roundg k4
                     case measure => have := HK1.out; have := HK2.out; have := HK3.out; have := HK4.out; omega
                     case rel => exact ⟨(y118), (wrap64 (x73_4 + 1)), (by first | rfl | (simp; done) | (simp [*]; done)), H', ⟨by have := HK1.out; have := HK2.out; have := HK3.out; have := HK4.out; omega⟩, ⟨by (with_reducible repeat (first | apply Ra | apply Rn | apply Rd)); exact HO_7.out⟩, ⟨by (with_reducible repeat (first | apply Kd.S_alloc | apply Kd.S_drewN | apply Kd.S_drew)); exact Kd.S_mono HO_21.out (fun _ hk => hk.2)⟩, ⟨by (with_reducible repeat (first | apply Kd.R_alloc | apply Kd.R_drewN | apply Kd.R_drew)); exact Kd.R_mono HL107_0.out (fun _ hk => hk.2)⟩, ⟨by repeat (first | (with_reducible first | exact HB.out | apply lA | apply lN | apply lD) | exact HB.out)⟩⟩
                    ·rw [if_neg c48] at H
                     exact absurd H (by simp)
                   ·rw [if_neg c47] at H
                    exact absurd H (by simp)
                  ·rw [if_neg c46] at H
                   exact absurd H (by simp)
                 ·rw [if_neg c45] at H
                  exact absurd H (by simp)
                ·rw [if_neg c44] at H
                 have c44b0 : decide (x73_4 < ((rd_L19 t104 x23_1).length : Int)) = false := decide_eq_false c44
                 clear c44
                 have H' := am H
                 clear H
                 go_wp2
                 go_roundg k4
                 case measure => have := HK1.out; have := HK2.out; have := HK3.out; have := HK4.out; omega
                 case rel => exact ⟨(x7_4), (wrap64 (x23_1 + 1)), (by first | rfl | (simp; done) | (simp [*]; done)), H', ⟨by have := HK1.out; have := HK2.out; have := HK3.out; have := HK4.out; omega⟩, ⟨by (with_reducible repeat (first | apply Ra | apply Rn | apply Rd)); exact HO_7.out⟩, ⟨by (with_reducible repeat (first | apply Kd.S_alloc | apply Kd.S_drewN | apply Kd.S_drew)); exact HO_21.out⟩, ⟨by repeat (first | (with_reducible first | exact HB.out | apply lA | apply lN | apply lD) | exact HB.out)⟩⟩
       ·rw [if_neg c13] at H
        exact absurd H (by simp)
      ·rw [if_neg c12] at H
       exact absurd H (by simp)
     ·rw [if_neg c11] at H
      have c11b0 : decide (x23_1 < (t104.length : Int)) = false := decide_eq_false c11
      clear c11
      obtain rfl := Option.some.inj H
      go_wp2
      go_ret
      exact ⟨_, by first | rfl | (simp [errW_none, errW_some] <;> rfl) | (simp [*, errW_none, errW_some] <;> rfl), by (with_reducible repeat (first | apply Ra | apply Rn | apply Rd)); exact HO_7.out, by repeat (first | (with_reducible first | exact HB.out | apply lA | apply lN | apply lD) | exact HB.out)⟩
  ·rw [if_neg c5] at H
   exact absurd H (by simp)
 ·rw [if_neg c4] at H
  exact absurd H (by simp)
end Go.Proofs.Ytmlhnjonmjmhdaa.H
namespace Go.Proofs.Ytmlhnjonmjmhdaa.H
open Go.RowKit Go.Sort Go.Proofs.YtmlhnjonmjmhdaaW.PrintWords Go.Proofs.YtmlhnjonmjmhdaaW.PrintLast Go.Proofs.YtmlhnjonmjmhdaaW.PrintMore
def slices_Compact_string_string.f (l : List ByteArray) : Option (List ByteArray) := some (compactS l)
theorem slices_Compact_string_string.calls (P0_ : Nat → Prop) (u9000_ : Value) (l0 r : List ByteArray) (w0 w : World) (hB : Below w0.heap.size w0 w) (ho0 : Kd.R Kd.string 9 w w0.heap.size P0_ u9000_ l0) (h : slices_Compact_string_string.f l0 = some r) :
    Calls Try.prog 56 #[u9000_] w fun e w' => ∃ v0_ : Value, e = .returned v0_ ∧ Kd.R Kd.string 9 w' w0.heap.size (fun k_ => (P0_ k_ ∨ w.heap.size ≤ k_)) v0_ r ∧ Below w0.heap.size w0 w' ∧ Kept w w' (fun k_ => P0_ k_) := by
  cases h
  have ho := Kd.own_of_R ho0
  obtain ⟨hlen, ho⟩ := ho
  rcases ho with ⟨rfl, h0⟩ | ⟨g, cap, cur, rfl, hbase, hb, h1, h2, h3, h4⟩
  · obtain rfl := List.length_eq_zero_iff.1 h0
    refine (Try.slices_Compact_string_empty none 0 w).mono ?_
    rintro e w' ⟨rfl, rfl⟩
    exact ⟨_, rfl, by simpa [compactS, Go.Lib.compact, Go.Lib.compactUpTo] using Kd.R_mono ho0 (fun k hk => .inl hk), hB, Kept.refl _ _⟩
  · have e4 : cur.toList.take (l0.map toL).length = (l0.map toL).map encStr := by
      rw [← encs_toL, List.length_map]
      rw [Nat.mul_one] at h4
      exact h4
    have hP : P0_ g := ho0.1 g rfl
    have hz : (l0.map toL).length ≤ 9223372036854775807 := by rw [List.length_map]; unfold maxLen at h2; omega
    have c := Try.slices_Compact_string g 0 cap (l0.map toL) w (so_holds hb e4) hz (by simpa using h1)
    rw [List.length_map] at c
    refine c.mono ?_
    rintro e w' ⟨rfl, q, rfl⟩
    generalize ht : Go.Lib.compact (l0.map toL) ++ List.replicate (l0.length - (Go.Lib.compact (l0.map toL)).length) ([] : List UInt8) = ts
    have hcl : (Go.Lib.compact (l0.map toL)).length ≤ l0.length := by simpa [compactS] using compactS_len l0
    have hl : ts.length = (l0.map toL).length := by rw [← ht]; simp; omega
    have e0 : putRow encStr (Sort.ahead w q) g 0 ts.toArray = grow (putRow encStr (Sort.ahead w q) g 0 ts.toArray) #[] := by simp
    rw [e0]
    have hgr := so_grown (w := w) (g := g) (n := q) (os := #[]) (enc := encStr) ts.toArray
    refine ⟨_, rfl, ?_, so_below hB hgr hbase, so_kept hgr hP⟩
    have hr := so_owns (w := w) (n := q) (os := #[]) (enc := encStr) (m := (Go.Lib.compact (l0.map toL)).length) (ts := ts) (ss := l0.map toL) hl (by rw [hl]; simpa using hcl) hbase hb (by simpa using h1) h2 h3
    refine Kd.R_of_own ?_ (fun k hk => .inl (ho0.1 k (by simpa [Value.ownBlock] using hk)))
    rw [← ht, List.take_left' rfl, encs_ofL] at hr
    rw [show (compactS l0).length = (Go.Lib.compact (l0.map toL)).length by simp [compactS]]
    rw [ht] at hr
    exact hr
def slices_Sort_string_string.f (l : List ByteArray) : Option (List ByteArray) := if l.length < 4611686018427387904 then some (sortS l) else none
theorem slices_Sort_string_string.calls (P0_ : Nat → Prop) (u9000_ : Value) (l0 r : List ByteArray) (w0 w : World) (hB : Below w0.heap.size w0 w) (ho0 : Kd.R Kd.string 9 w w0.heap.size P0_ u9000_ l0) (h : slices_Sort_string_string.f l0 = some r) :
    Calls Try.prog 55 #[u9000_] w fun e w' => e = .returned (.tuple #[]) ∧ Kd.R Kd.string 9 w' w0.heap.size (fun k_ => (P0_ k_ ∨ w.heap.size ≤ k_)) u9000_ r ∧ Below w0.heap.size w0 w' ∧ Kept w w' (fun k_ => P0_ k_) := by
  unfold slices_Sort_string_string.f at h
  split at h
  case isFalse => cases h
  rename_i hz0
  cases h
  have ho := Kd.own_of_R ho0
  obtain ⟨hlen, ho⟩ := ho
  rcases ho with ⟨rfl, h0⟩ | ⟨g, cap, cur, rfl, hbase, hb, h1, h2, h3, h4⟩
  · obtain rfl := List.length_eq_zero_iff.1 h0
    refine (Try.slices_Sort_string_none none 0 w).mono ?_
    rintro e w' ⟨rfl, rfl⟩
    exact ⟨rfl, by simpa [sortS] using Kd.R_mono ho0 (fun k hk => .inl hk), hB, Kept.refl _ _⟩
  · have e4 : cur.toList.take (l0.map toL).length = (l0.map toL).map encStr := by
      rw [← encs_toL, List.length_map]
      rw [Nat.mul_one] at h4
      exact h4
    have hP : P0_ g := ho0.1 g rfl
    have hg : g < w.heap.size := (Array.getElem?_eq_some_iff.1 hb).1
    have hz : (l0.map toL).length < 4611686018427387904 := by rw [List.length_map]; exact hz0
    have c := Try.slices_Sort_string g 0 cap (l0.map toL) w (so_holds hb e4) hg hz
    rw [List.length_map] at c
    refine c.mono ?_
    rintro e w' ⟨rfl, n, os, rfl⟩
    have hgr := so_grown (w := w) (g := g) (n := n) (os := os) (enc := encStr) ((l0.map toL).mergeSort fun x y => decide (x ≤ y)).toArray
    refine ⟨rfl, ?_, so_below hB hgr hbase, so_kept hgr hP⟩
    have hr := so_owns (w := w) (n := n) (os := os) (enc := encStr) (m := l0.length) (ts := (l0.map toL).mergeSort fun x y => decide (x ≤ y)) (ss := l0.map toL) (by simp) (by simp) hbase hb (by simpa using h1) h2 h3
    refine Kd.R_of_own ?_ (fun k hk => .inl (ho0.1 k hk))
    rw [List.take_of_length_le (by simp), encs_ofL] at hr
    rw [sortS_len]
    simpa [sortS, encs] using hr
end Go.Proofs.Ytmlhnjonmjmhdaa.H
namespace Go.Proofs.Ytmlhnjonmjmhdaa.H
open Go.RowKit Go.Proofs.YtmlhnjonmjmhdaaW.PrintWords Go.Proofs.YtmlhnjonmjmhdaaW.PrintLast Go.Proofs.YtmlhnjonmjmhdaaW.PrintMore
attribute [local go_sem] max2_int min2_int max_two min_two max_three min_three max_four min_four
mutual
def strata_Preds.l0 : Nat → List ByteArray → List (Decl) → Int → Int → List (Decl) → List (Rule) → Option (List ByteArray)
 | 0, _, _, _, _, _, _ => none
 | k + 1, x3, x11, x12, x13, x102000, x102001 => if x13 < x12 then (if 0 ≤ x13 then (if x13 < (x11.length : Int) then (if x3.length < 8796093022208 then (strata_Preds.l0 k (x3 ++ [(rd_T96 x11 x13).pred]) x11 x12 (wrap64 (x13 + 1)) x102000 x102001) else (none)) else (none)) else (none)) else (strata_Preds.l1 k x3 x102001 (x102001.length : Int) 0)
def strata_Preds.l1 : Nat → List ByteArray → List (Rule) → Int → Int → Option (List ByteArray)
 | 0, _, _, _, _ => none
 | k + 1, x3, x24, x25, x26 => if x26 < x25 then (if 0 ≤ x26 then (if x26 < (x24.length : Int) then (if x3.length < 8796093022208 then (strata_Preds.l2 k (x3 ++ [(rd_T64 x24 x26).head.pred]) x24 x25 x26 ((rd_T64 x24 x26).body) (((rd_T64 x24 x26).body).length : Int) 0) else (none)) else (none)) else (none)) else ((slices_Sort_string_string.f x3).bind fun t107 => ((slices_Compact_string_string.f t107).bind fun t108 => (some t108)))
def strata_Preds.l2 : Nat → List ByteArray → List (Rule) → Int → Int → List (Liter) → Int → Int → Option (List ByteArray)
 | 0, _, _, _, _, _, _, _ => none
 | k + 1, x3, x24, x25, x26, x37, x38, x39 => if x39 < x38 then (if 0 ≤ x39 then (if x39 < (x37.length : Int) then (if ((rd_T71 x37 x39).kind) = 1 then (if x3.length < 8796093022208 then (strata_Preds.l2 k (x3 ++ [(rd_T71 x37 x39).atom.pred]) x24 x25 x26 x37 x38 (wrap64 (x39 + 1))) else (none)) else (if ((rd_T71 x37 x39).kind) = 2 then (if x3.length < 8796093022208 then (strata_Preds.l2 k (x3 ++ [(rd_T71 x37 x39).atom.pred]) x24 x25 x26 x37 x38 (wrap64 (x39 + 1))) else (none)) else (strata_Preds.l2 k x3 x24 x25 x26 x37 x38 (wrap64 (x39 + 1))))) else (none)) else (none)) else (strata_Preds.l1 k x3 x24 x25 (wrap64 (x26 + 1)))
end
def strata_Preds.f (k : Nat) (l0_0 : List (Decl)) (l0_1 : List (Rule)) : Option (List ByteArray) := strata_Preds.l0 k ([] : List ByteArray) l0_0 (l0_0.length : Int) 0 l0_0 l0_1
theorem strata_Preds.mono_l : ∀ k, (∀ y0 y1 y2 y3 y4 y5, LeO (strata_Preds.l0 k y0 y1 y2 y3 y4 y5) (strata_Preds.l0 (k + 1) y0 y1 y2 y3 y4 y5)) ∧ (∀ y0 y1 y2 y3, LeO (strata_Preds.l1 k y0 y1 y2 y3) (strata_Preds.l1 (k + 1) y0 y1 y2 y3)) ∧ (∀ y0 y1 y2 y3 y4 y5 y6, LeO (strata_Preds.l2 k y0 y1 y2 y3 y4 y5 y6) (strata_Preds.l2 (k + 1) y0 y1 y2 y3 y4 y5 y6))
 | 0 => ⟨fun _ _ _ _ _ _ r h => by simp [strata_Preds.l0] at h, fun _ _ _ _ r h => by simp [strata_Preds.l1] at h, fun _ _ _ _ _ _ _ r h => by simp [strata_Preds.l2] at h⟩
 | k + 1 => by
  obtain ⟨ih0, ih1, ih2⟩ := strata_Preds.mono_l k
  refine ⟨?_, ?_, ?_⟩
  ·intro y0 y1 y2 y3 y4 y5
   unfold strata_Preds.l0
   repeat' first
   | (with_reducible exact ih0 _ _ _ _ _ _)
   | (with_reducible exact ih1 _ _ _ _)
   | (with_reducible exact ih2 _ _ _ _ _ _ _)
   | (with_reducible exact LeO.refl _)
   | (with_reducible exact LeO.none _)
   | (with_reducible refine LeO.ite ?_ ?_)
   | (with_reducible refine LeO.bind ?_ (fun _ => ?_))
   | exact ih0 _ _ _ _ _ _
   | exact ih1 _ _ _ _
   | exact ih2 _ _ _ _ _ _ _
   | exact LeO.none _
   | refine LeO.ite ?_ ?_
   | refine LeO.bind ?_ (fun _ => ?_)
  ·intro y0 y1 y2 y3
   unfold strata_Preds.l1
   repeat' first
   | (with_reducible exact ih0 _ _ _ _ _ _)
   | (with_reducible exact ih1 _ _ _ _)
   | (with_reducible exact ih2 _ _ _ _ _ _ _)
   | (with_reducible exact LeO.refl _)
   | (with_reducible exact LeO.none _)
   | (with_reducible refine LeO.ite ?_ ?_)
   | (with_reducible refine LeO.bind ?_ (fun _ => ?_))
   | exact ih0 _ _ _ _ _ _
   | exact ih1 _ _ _ _
   | exact ih2 _ _ _ _ _ _ _
   | exact LeO.none _
   | refine LeO.ite ?_ ?_
   | refine LeO.bind ?_ (fun _ => ?_)
  ·intro y0 y1 y2 y3 y4 y5 y6
   unfold strata_Preds.l2
   repeat' first
   | (with_reducible exact ih0 _ _ _ _ _ _)
   | (with_reducible exact ih1 _ _ _ _)
   | (with_reducible exact ih2 _ _ _ _ _ _ _)
   | (with_reducible exact LeO.refl _)
   | (with_reducible exact LeO.none _)
   | (with_reducible refine LeO.ite ?_ ?_)
   | (with_reducible refine LeO.bind ?_ (fun _ => ?_))
   | exact ih0 _ _ _ _ _ _
   | exact ih1 _ _ _ _
   | exact ih2 _ _ _ _ _ _ _
   | exact LeO.none _
   | refine LeO.ite ?_ ?_
   | refine LeO.bind ?_ (fun _ => ?_)
theorem strata_Preds.mono : ∀ a0 a1 k, LeO (strata_Preds.f k a0 a1) (strata_Preds.f (k + 1) a0 a1) := by
 intro a0 a1 k
 obtain ⟨ih0, ih1, ih2⟩ := strata_Preds.mono_l k
 unfold strata_Preds.f
 repeat' first
   | (with_reducible exact ih0 _ _ _ _ _ _)
   | (with_reducible exact ih1 _ _ _ _)
   | (with_reducible exact ih2 _ _ _ _ _ _ _)
   | (with_reducible exact LeO.refl _)
   | (with_reducible exact LeO.none _)
   | (with_reducible refine LeO.ite ?_ ?_)
   | (with_reducible refine LeO.bind ?_ (fun _ => ?_))
   | exact ih0 _ _ _ _ _ _
   | exact ih1 _ _ _ _
   | exact ih2 _ _ _ _ _ _ _
   | exact LeO.none _
   | refine LeO.ite ?_ ?_
   | refine LeO.bind ?_ (fun _ => ?_)
set_option maxHeartbeats 8000000 in
set_option maxRecDepth 100000 in
theorem strata_Preds.calls (k : Nat) (A0_0 : Option Addr) (c0_0 : Nat) (l0_0 : List (Decl)) (A0_1 : Option Addr) (c0_1 : Nat) (l0_1 : List (Rule)) (r : List ByteArray) (w : World) (hr0_0 : Kd.C k96 w A0_0 l0_0.length l0_0) (hc0_0 : l0_0.length ≤ c0_0) (hr0_1 : Kd.C k64 w A0_1 l0_1.length l0_1) (hc0_1 : l0_1.length ≤ c0_1) (h : strata_Preds.f k l0_0 l0_1 = some r) :
  Calls Try.prog 32 #[.agg #[.slice A0_0 l0_0.length c0_0, .slice A0_1 l0_1.length c0_1]] w fun e w' => ∃ v0_ : Value, e = .returned (v0_) ∧ Kd.R Kd.string 9 w' w.heap.size (fun _ => True) v0_ r ∧ Below w.heap.size w w' := by
 have hu50 := Try.underlying50
 have hu96 := Try.underlying96
 have hu64 := Try.underlying64
 have hu71 := Try.underlying71
 have HR0_0 := am hr0_0
 have HC0_0 := am hc0_0
 clear hr0_0 hc0_0
 have HR0_1 := am hr0_1
 have HC0_1 := am hc0_1
 clear hr0_1 hc0_1
 have HB := am (Below.refl w.heap.size w)
 have H : (strata_Preds.l0 k ([] : List ByteArray) l0_0 (l0_0.length : Int) 0 l0_0 l0_1) = some r := h
 clear h
 have H' := am H
 clear H
 go_enter Try.func32, Try.ntmps32
 go_wp2_with (first | ((with_reducible refine gate_dst (N := 1) rfl ?_); refine box_event ?hg (N := 1) ?hd (cs := #[.slice A0_0 l0_0.length c0_0, .slice A0_1 l0_1.length c0_1]) (t := 50) ?hr ?_; (case hd => rfl); (case hg => rfl); (case hr => first | (go_simp; done) | (go_simp; rfl)); intro gb101 hg w2 hbox hb; have BK101 := am (hbox); have GW101 := am ((by rw [hg]; exact (below_size (by repeat (first | (with_reducible first | exact HB.out | apply lA | apply lN | apply lD) | exact HB.out))) : w.heap.size ≤ gb101)); have GE101 := am ((by rw [hg]; exact (below_size (by repeat (first | (with_reducible first | exact HB.out | apply lA | apply lN | apply lD) | exact HB.out))) : w.heap.size ≤ gb101)); replace HB := am (below_step (by repeat (first | (with_reducible first | exact HB.out | apply lA | apply lN | apply lD) | exact HB.out)) hb); clear hb hbox hg; have hcz3_0 : w2.cell? ⟨gb101, 0, none⟩ = some (.slice A0_0 l0_0.length c0_0) := (blk_cell BK101.out 0).trans rfl; have hcz3_1 : w2.cell? ⟨gb101, 1, none⟩ = some (.slice A0_1 l0_1.length c0_1) := (blk_cell BK101.out 1).trans rfl; have hfz3_0 := blk_frozen BK101.out 0; have hfz3_1 := blk_frozen BK101.out 1))
 go_loopg [3, 13] k (fun kq v3 v13 w' => ∃ (x3_1 : List ByteArray) (x13_1 : Int), v13 = .int .i64 x13_1 ∧ Aside0 (strata_Preds.l0 kq x3_1 l0_0 (l0_0.length : Int) x13_1 l0_0 l0_1 = some r) ∧ Aside0 (kq ≤ k) ∧ Aside0 (Kd.R Kd.string 9 w' w.heap.size (fun _ => True) v3 x3_1) ∧ Aside0 (w'.heap[gb101]? = some (.cells #[(.slice A0_0 l0_0.length c0_0), (.slice A0_1 l0_1.length c0_1)] 50 (0, 0))) ∧ Aside0 (Below w.heap.size w w'))
 case atStart => exact ⟨(([] : List ByteArray)), (0), (by first | rfl | (simp; done) | (simp [*]; done)), H', ⟨Nat.le_refl _⟩, ⟨by first | exact Kd.R_nil _ _ _ _ _ | exact Kd.N_nil _ _ _ _ _ | exact Kd.V_nil _ _ _ _ _ | exact Kd.Q_nil _ _ _ _ _ | exact Kd.S_nil _ _ _ _ _⟩, ⟨by (with_reducible repeat (first | refine bN ?_ _ | refine bD ?_ | refine bA ?_ _)); exact BK101.out⟩, ⟨by repeat (first | (with_reducible first | exact HB.out | apply lA | apply lN | apply lD | refine lS ?_ GE101.out) | exact HB.out)⟩⟩
 case round =>
  clear H'
  try clear p2
  try clear c3
  try clear hcz3_0
  try clear hcz3_1
  try clear hfz3_0
  try clear hfz3_1
  obtain ⟨x3_1, x13_1, rfl, HA, HK1, HO_3, BK101, HB⟩ := hrel
  cases gk with
  | zero => exact absurd HA.out (by simp [strata_Preds.l0])
  | succ k1 =>
   have H := HA.out
   clear HA
   simp only [strata_Preds.l0] at H
   by_cases c4 : x13_1 < (l0_0.length : Int)
   ·rw [if_pos c4] at H
    have c4b0 : decide (x13_1 < (l0_0.length : Int)) = true := decide_eq_true c4
    clear c4
    by_cases c5 : 0 ≤ x13_1
    ·rw [if_pos c5] at H
     have c5b0 : decide (0 ≤ x13_1) = true := decide_eq_true c5
     clear c5
     by_cases c6 : x13_1 < (l0_0.length : Int)
     ·rw [if_pos c6] at H
      have c6b0 : decide (x13_1 < (l0_0.length : Int)) = true := decide_eq_true c6
      clear c6
      by_cases c7 : x3_1.length < 8796093022208
      ·rw [if_pos c7] at H
       have LMc7 := am c7
       clear c7
       obtain ⟨y104, hy104⟩ : ∃ y_ : List ByteArray, y_ = (x3_1 ++ [(rd_T96 l0_0 x13_1).pred]) := ⟨_, rfl⟩
       replace H : (strata_Preds.l0 k1 y104 l0_0 (l0_0.length : Int) (wrap64 (x13_1 + 1)) l0_0 l0_1) = some r := by first | (rw [hy104]; with_reducible exact H) | (have H2_ := (Option.bind_some _ _).symm.trans H; rw [hy104]; with_reducible exact H2_) | (have H2_ := (Option.bind_some _ _).symm.trans H; with_reducible exact H2_) | with_reducible exact H | (rw [hy104]; exact H) | exact H
       have Ny104 := am hy104
       clear hy104
       have H' := am H
       clear H
       have p102 : 0 ≤ (x13_1 : Int) := of_decide_eq_true (by first | (with_reducible assumption) | assumption)
       have q102 : x13_1 < (l0_0.length : Int) := of_decide_eq_true (by first | (with_reducible assumption) | assumption)
       obtain ⟨ad102, e102, hx102_0, hx102_1⟩ := at_T96 HR0_0.out x13_1 p102 q102
       cases e102
       replace hx102_0 := (HB.out.cell (blt_ hx102_0)).trans hx102_0
       replace hx102_1 := (HB.out.cell (blt_ hx102_1)).trans hx102_1
       replace p102 := eq_true p102
       replace q102 := eq_true q102
       go_wp2_with (first | ((with_reducible refine gate_dst (N := 5) rfl ?_); refine box_event ?hg (N := 5) ?hd (cs := #[.string (⟨#[]⟩ : ByteArray), .int .i64 0]) (t := 96) ?hr ?_; (case hd => rfl); (case hg => rfl); (case hr => first | (go_simp; done) | (go_simp; rfl)); intro gb103 hg w8 hbox hb; replace HO_3 := am (Kd.R_below (by (with_reducible repeat (first | apply Ra | apply Rn | apply Rd)); exact HO_3.out) hb); have BK103 := am (hbox); have GW103 := am ((by rw [hg]; exact (below_size (by repeat (first | (with_reducible first | exact HB.out | apply lA | apply lN | apply lD | refine lS ?_ GE101.out) | exact HB.out))) : w.heap.size ≤ gb103)); have GE103 := am ((by rw [hg]; exact (below_size (by repeat (first | (with_reducible first | exact HB.out | apply lA | apply lN | apply lD | refine lS ?_ GE101.out) | exact HB.out))) : w.heap.size ≤ gb103)); replace HB := am (below_step (by repeat (first | (with_reducible first | exact HB.out | apply lA | apply lN | apply lD | refine lS ?_ GE101.out) | exact HB.out)) hb); have NB101_103 := am ((by rw [hg]; exact Nat.ne_of_lt (blk_lt (g := gb101) (o := .cells #[.slice (some ad102) l0_0.length c0_0, .slice A0_1 l0_1.length c0_1] 50 (0, 0)) (by (with_reducible repeat (first | refine bN ?_ _ | refine bD ?_ | refine bA ?_ _)); exact BK101.out)) : gb101 ≠ gb103)); have NB103_101 := am ((by rw [hg]; exact Nat.ne_of_gt (blk_lt (g := gb101) (o := .cells #[.slice (some ad102) l0_0.length c0_0, .slice A0_1 l0_1.length c0_1] 50 (0, 0)) (by (with_reducible repeat (first | refine bN ?_ _ | refine bD ?_ | refine bA ?_ _)); exact BK101.out)) : gb103 ≠ gb101)); replace BK101 := am (blk_below (g := gb101) (o := .cells #[.slice (some ad102) l0_0.length c0_0, .slice A0_1 l0_1.length c0_1] 50 (0, 0)) (by (with_reducible repeat (first | refine bN ?_ _ | refine bD ?_ | refine bA ?_ _)); exact BK101.out) hb); clear hb hbox hg; have hnb9 := NB103_101.out; have hnc9 := NB101_103.out; have hcz10_0 : w8.cell? ⟨gb103, 0, none⟩ = some (.string (⟨#[]⟩ : ByteArray)) := (blk_cell BK103.out 0).trans rfl; have hcz10_1 : w8.cell? ⟨gb103, 1, none⟩ = some (.int .i64 0) := (blk_cell BK103.out 1).trans rfl; have hfz10_0 := blk_frozen BK103.out 0; have hfz10_1 := blk_frozen BK103.out 1) | ((with_reducible refine gate_builtin (b := .append) (xs := #[.tmp 17, .tmp 20]) rfl ?_); at_builtin; refine Kd.R_append Kd.string (w0 := w) w.heap.size rfl (.tmp 17) (.tmp 20) 52 9 (.string ⟨#[]⟩) 16 rfl Try.underlying52 info9 rfl (by decide) (by omega) u3 x3_1 ((rd_T96 l0_0 x13_1).pred) [.string ((rd_T96 l0_0 x13_1).pred)] (fun _ => True) (fun _ => False) rfl (by first | (go_simp; done) | (go_simp; rfl)) ?aP (fun _ hk => hk.elim) ?aF ?aO ?aB ?aS ?aL ?_; (case aP => exact rfl); (case aB => exact (by repeat (first | (with_reducible first | exact HB.out | apply lA | apply lN | apply lD | refine lS ?_ GE101.out | refine lS ?_ GE103.out) | exact HB.out))); (case aF => exact (fun _ _ => trivial)); (case aO => exact (by (with_reducible repeat (first | apply Ra | apply Rn | apply Rd)); exact Kd.R_mono (Kd.R_far (p := ⟨gb103, 1, none⟩) (Kd.R_far (p := ⟨gb103, 0, none⟩) (Kd.R_types HO_3.out BK103.out (by decide)) (fun _ hk => hk.2) _) (fun _ hk => hk.2) _) (fun _ hk => trivial))); (case aS => exact (below_size (by repeat (first | (with_reducible first | exact HB.out | apply lA | apply lN | apply lD | refine lS ?_ GE101.out | refine lS ?_ GE103.out) | exact HB.out)))); (case aL => have := LMc7.out; omega); intro v105 w11 ho hb hg hat; rw [← Ny104.out] at ho; replace BK101 := am (blk_grown (g := gb101) (o := .cells #[.slice (some ad102) l0_0.length c0_0, .slice A0_1 l0_1.length c0_1] 50 (0, 0)) (by (with_reducible repeat (first | refine bN ?_ _ | refine bD ?_ | refine bA ?_ _)); refine blk_far ?_ NB101_103.out _; (with_reducible repeat (first | refine bN ?_ _ | refine bD ?_ | refine bA ?_ _)); refine blk_far ?_ NB101_103.out _; (with_reducible repeat (first | refine bN ?_ _ | refine bD ?_ | refine bA ?_ _)); exact BK101.out) hg (Kd.R_ne HO_3.out BK101.out (by decide))); replace BK103 := am (blk_grown (g := gb103) (o := .cells #[.string ((rd_T96 l0_0 x13_1).pred), .int .i64 ((rd_T96 l0_0 x13_1).arity)] 96 (0, 0)) (by (with_reducible repeat (first | refine bN ?_ _ | refine bD ?_ | refine bA ?_ _)); refine blk_put (cs := #[.string ((rd_T96 l0_0 x13_1).pred), .int .i64 0]) ?_ 1 _ rfl; (with_reducible repeat (first | refine bN ?_ _ | refine bD ?_ | refine bA ?_ _)); refine blk_put (cs := #[.string (⟨#[]⟩ : ByteArray), .int .i64 0]) ?_ 0 _ rfl; (with_reducible repeat (first | refine bN ?_ _ | refine bD ?_ | refine bA ?_ _)); exact BK103.out) hg (Kd.R_ne HO_3.out BK103.out (by decide))); replace HB := am (hb); have HO106 := am (ho); clear HO_3; clear ho hb hg hat))
       go_roundg k1
       case measure => have := HK1.out; omega
       case rel => exact ⟨(y104), (wrap64 (x13_1 + 1)), (by first | rfl | (simp; done) | (simp [*]; done)), H', ⟨by have := HK1.out; omega⟩, ⟨by (with_reducible repeat (first | apply Ra | apply Rn | apply Rd)); exact HO106.out⟩, ⟨by (with_reducible repeat (first | refine bN ?_ _ | refine bD ?_ | refine bA ?_ _)); exact BK101.out⟩, ⟨by repeat (first | (with_reducible first | exact HB.out | apply lA | apply lN | apply lD | refine lS ?_ GE101.out | refine lS ?_ GE103.out) | exact HB.out)⟩⟩
      ·rw [if_neg c7] at H
       exact absurd H (by simp)
     ·rw [if_neg c6] at H
      exact absurd H (by simp)
    ·rw [if_neg c5] at H
     exact absurd H (by simp)
   ·rw [if_neg c4] at H
    have c4b0 : decide (x13_1 < (l0_0.length : Int)) = false := decide_eq_false c4
    clear c4
    have H' := am H
    clear H
    have hcz12_0 : wr.cell? ⟨gb101, 0, none⟩ = some (.slice A0_0 l0_0.length c0_0) := (blk_cell BK101.out 0).trans rfl
    have hcz12_1 : wr.cell? ⟨gb101, 1, none⟩ = some (.slice A0_1 l0_1.length c0_1) := (blk_cell BK101.out 1).trans rfl
    have hfz12_0 := blk_frozen BK101.out 0
    have hfz12_1 := blk_frozen BK101.out 1
    go_wp2
    go_loopg [3, 26] k1 (fun kq v3 v26 w' => ∃ (x3_2 : List ByteArray) (x26_2 : Int), v26 = .int .i64 x26_2 ∧ Aside0 (strata_Preds.l1 kq x3_2 l0_1 (l0_1.length : Int) x26_2 = some r) ∧ Aside0 (kq ≤ k1) ∧ Aside0 (Kd.R Kd.string 9 w' w.heap.size (fun _ => True) v3 x3_2) ∧ Aside0 (w'.heap[gb101]? = some (.cells #[(.slice A0_0 l0_0.length c0_0), (.slice A0_1 l0_1.length c0_1)] 50 (0, 0))) ∧ Aside0 (Below w.heap.size w w'))
    case atStart => exact ⟨(x3_1), (0), (by first | rfl | (simp; done) | (simp [*]; done)), H', ⟨Nat.le_refl _⟩, ⟨by (with_reducible repeat (first | apply Ra | apply Rn | apply Rd)); exact HO_3.out⟩, ⟨by (with_reducible repeat (first | refine bN ?_ _ | refine bD ?_ | refine bA ?_ _)); exact BK101.out⟩, ⟨by repeat (first | (with_reducible first | exact HB.out | apply lA | apply lN | apply lD | refine lS ?_ GE101.out) | exact HB.out)⟩⟩
    case round =>
     clear H'
     try clear p1
     try clear q1
     try clear hx1
     try clear p2
     try clear c3
     try clear c4
     try clear c4b0
     try clear c5
     try clear c5b0
     try clear c6
     try clear c6b0
     try clear p6
     try clear c7
     try clear c9
     try clear p10
     try clear q10
     try clear hx10
     try clear hcz10_0
     try clear hcz10_1
     try clear hcz12_0
     try clear hcz12_1
     try clear hcz3_0
     try clear hcz3_1
     try clear hfz10_0
     try clear hfz10_1
     try clear hfz12_0
     try clear hfz12_1
     try clear hfz3_0
     try clear hfz3_1
     try clear hx102_0
     try clear hx102_1
     try clear p102
     try clear p2
     try clear q102
     obtain ⟨x3_2, x26_2, rfl, HA, HK2, HO_3, BK101, HB⟩ := hrel
     cases gk with
     | zero => exact absurd HA.out (by simp [strata_Preds.l1])
     | succ k2 =>
      have H := HA.out
      clear HA
      simp only [strata_Preds.l1] at H
      by_cases c13 : x26_2 < (l0_1.length : Int)
      ·rw [if_pos c13] at H
       have c13b0 : decide (x26_2 < (l0_1.length : Int)) = true := decide_eq_true c13
       clear c13
       by_cases c14 : 0 ≤ x26_2
       ·rw [if_pos c14] at H
        have c14b0 : decide (0 ≤ x26_2) = true := decide_eq_true c14
        clear c14
        by_cases c15 : x26_2 < (l0_1.length : Int)
        ·rw [if_pos c15] at H
         have c15b0 : decide (x26_2 < (l0_1.length : Int)) = true := decide_eq_true c15
         clear c15
         by_cases c16 : x3_2.length < 8796093022208
         ·rw [if_pos c16] at H
          have LMc16 := am c16
          clear c16
          obtain ⟨y113, hy113⟩ : ∃ y_ : List ByteArray, y_ = (x3_2 ++ [(rd_T64 l0_1 x26_2).head.pred]) := ⟨_, rfl⟩
          replace H : (strata_Preds.l2 k2 y113 l0_1 (l0_1.length : Int) x26_2 ((rd_T64 l0_1 x26_2).body) (((rd_T64 l0_1 x26_2).body).length : Int) 0) = some r := by first | (rw [hy113]; with_reducible exact H) | (have H2_ := (Option.bind_some _ _).symm.trans H; rw [hy113]; with_reducible exact H2_) | (have H2_ := (Option.bind_some _ _).symm.trans H; with_reducible exact H2_) | with_reducible exact H | (rw [hy113]; exact H) | exact H
          have Ny113 := am hy113
          clear hy113
          have H' := am H
          clear H
          have p111 : 0 ≤ (x26_2 : Int) := of_decide_eq_true (by first | (with_reducible assumption) | assumption)
          have q111 : x26_2 < (l0_1.length : Int) := of_decide_eq_true (by first | (with_reducible assumption) | assumption)
          obtain ⟨ad111, A111_1, c111_1, A111_2, c111_2, e111, hx111_0, hx111_1, hx111_2, hl111_1, hi111_1, hl111_2, hi111_2⟩ := at_T64 HR0_1.out x26_2 p111 q111
          cases e111
          replace hx111_0 := (HB.out.cell (blt_ hx111_0)).trans hx111_0
          replace hx111_1 := (HB.out.cell (blt_ hx111_1)).trans hx111_1
          replace hx111_2 := (HB.out.cell (blt_ hx111_2)).trans hx111_2
          have HR111_1 := am hi111_1
          have HC111_1 := am hl111_1
          clear hi111_1 hl111_1
          have HR111_2 := am hi111_2
          have HC111_2 := am hl111_2
          clear hi111_2 hl111_2
          replace p111 := eq_true p111
          replace q111 := eq_true q111
          go_wp2_with (first | ((with_reducible refine gate_dst (N := 7) rfl ?_); refine box_event ?hg (N := 7) ?hd (cs := #[.string (⟨#[]⟩ : ByteArray), .slice none 0 0, .slice none 0 0]) (t := 64) ?hr ?_; (case hd => rfl); (case hg => rfl); (case hr => first | (go_simp; done) | (go_simp; rfl)); intro gb112 hg w17 hbox hb; replace HO_3 := am (Kd.R_below (by (with_reducible repeat (first | apply Ra | apply Rn | apply Rd)); exact HO_3.out) hb); have BK112 := am (hbox); have GW112 := am ((by rw [hg]; exact (below_size (by repeat (first | (with_reducible first | exact HB.out | apply lA | apply lN | apply lD | refine lS ?_ GE101.out) | exact HB.out))) : w.heap.size ≤ gb112)); have GE112 := am ((by rw [hg]; exact (below_size (by repeat (first | (with_reducible first | exact HB.out | apply lA | apply lN | apply lD | refine lS ?_ GE101.out) | exact HB.out))) : w.heap.size ≤ gb112)); replace HB := am (below_step (by repeat (first | (with_reducible first | exact HB.out | apply lA | apply lN | apply lD | refine lS ?_ GE101.out) | exact HB.out)) hb); have NB101_112 := am ((by rw [hg]; exact Nat.ne_of_lt (blk_lt (g := gb101) (o := .cells #[.slice A0_0 l0_0.length c0_0, .slice (some ad111) l0_1.length c0_1] 50 (0, 0)) (by (with_reducible repeat (first | refine bN ?_ _ | refine bD ?_ | refine bA ?_ _)); exact BK101.out)) : gb101 ≠ gb112)); have NB112_101 := am ((by rw [hg]; exact Nat.ne_of_gt (blk_lt (g := gb101) (o := .cells #[.slice A0_0 l0_0.length c0_0, .slice (some ad111) l0_1.length c0_1] 50 (0, 0)) (by (with_reducible repeat (first | refine bN ?_ _ | refine bD ?_ | refine bA ?_ _)); exact BK101.out)) : gb112 ≠ gb101)); replace BK101 := am (blk_below (g := gb101) (o := .cells #[.slice A0_0 l0_0.length c0_0, .slice (some ad111) l0_1.length c0_1] 50 (0, 0)) (by (with_reducible repeat (first | refine bN ?_ _ | refine bD ?_ | refine bA ?_ _)); exact BK101.out) hb); clear hb hbox hg; have hnb18 := NB112_101.out; have hnc18 := NB101_112.out; have hcz19_0 : w17.cell? ⟨gb112, 0, none⟩ = some (.string (⟨#[]⟩ : ByteArray)) := (blk_cell BK112.out 0).trans rfl; have hcz19_1 : w17.cell? ⟨gb112, 1, none⟩ = some (.slice none 0 0) := (blk_cell BK112.out 1).trans rfl; have hcz19_2 : w17.cell? ⟨gb112, 2, none⟩ = some (.slice none 0 0) := (blk_cell BK112.out 2).trans rfl; have hfz19_0 := blk_frozen BK112.out 0; have hfz19_1 := blk_frozen BK112.out 1; have hfz19_2 := blk_frozen BK112.out 2) | ((with_reducible refine gate_builtin (b := .append) (xs := #[.tmp 30, .tmp 34]) rfl ?_); at_builtin; refine Kd.R_append Kd.string (w0 := w) w.heap.size rfl (.tmp 30) (.tmp 34) 52 9 (.string ⟨#[]⟩) 16 rfl Try.underlying52 info9 rfl (by decide) (by omega) u3 x3_2 ((rd_T64 l0_1 x26_2).head.pred) [.string ((rd_T64 l0_1 x26_2).head.pred)] (fun _ => True) (fun _ => False) rfl (by first | (go_simp; done) | (go_simp; rfl)) ?aP (fun _ hk => hk.elim) ?aF ?aO ?aB ?aS ?aL ?_; (case aP => exact rfl); (case aB => exact (by repeat (first | (with_reducible first | exact HB.out | apply lA | apply lN | apply lD | refine lS ?_ GE101.out | refine lS ?_ GE112.out) | exact HB.out))); (case aF => exact (fun _ _ => trivial)); (case aO => exact (by (with_reducible repeat (first | apply Ra | apply Rn | apply Rd)); exact Kd.R_mono (Kd.R_far (p := ⟨gb112, 2, none⟩) (Kd.R_far (p := ⟨gb112, 1, none⟩) (Kd.R_far (p := ⟨gb112, 0, none⟩) (Kd.R_types HO_3.out BK112.out (by decide)) (fun _ hk => hk.2) _) (fun _ hk => hk.2) _) (fun _ hk => hk.2) _) (fun _ hk => trivial))); (case aS => exact (below_size (by repeat (first | (with_reducible first | exact HB.out | apply lA | apply lN | apply lD | refine lS ?_ GE101.out | refine lS ?_ GE112.out) | exact HB.out)))); (case aL => have := LMc16.out; omega); intro v114 w20 ho hb hg hat; rw [← Ny113.out] at ho; replace BK101 := am (blk_grown (g := gb101) (o := .cells #[.slice A0_0 l0_0.length c0_0, .slice (some ad111) l0_1.length c0_1] 50 (0, 0)) (by repeat (first | (with_reducible first | exact BK101.out | refine bN ?_ _ | refine bD ?_ | refine bA ?_ _) | refine blk_far ?_ NB101_112.out _ | exact BK101.out)) hg (Kd.R_ne HO_3.out BK101.out (by decide))); replace BK112 := am (blk_grown (g := gb112) (o := .cells #[.string ((rd_T64 l0_1 x26_2).head.pred), .slice A111_1 ((rd_T64 l0_1 x26_2).head.args).length c111_1, .slice A111_2 ((rd_T64 l0_1 x26_2).body).length c111_2] 64 (0, 0)) (by (with_reducible repeat (first | refine bN ?_ _ | refine bD ?_ | refine bA ?_ _)); refine blk_put (cs := #[.string ((rd_T64 l0_1 x26_2).head.pred), .slice A111_1 ((rd_T64 l0_1 x26_2).head.args).length c111_1, .slice none 0 0]) ?_ 2 _ rfl; (with_reducible repeat (first | refine bN ?_ _ | refine bD ?_ | refine bA ?_ _)); refine blk_put (cs := #[.string ((rd_T64 l0_1 x26_2).head.pred), .slice none 0 0, .slice none 0 0]) ?_ 1 _ rfl; (with_reducible repeat (first | refine bN ?_ _ | refine bD ?_ | refine bA ?_ _)); refine blk_put (cs := #[.string (⟨#[]⟩ : ByteArray), .slice none 0 0, .slice none 0 0]) ?_ 0 _ rfl; (with_reducible repeat (first | refine bN ?_ _ | refine bD ?_ | refine bA ?_ _)); exact BK112.out) hg (Kd.R_ne HO_3.out BK112.out (by decide))); replace HB := am (hb); have HO115 := am (ho); clear HO_3; clear ho hb hg hat; have hcz21_0 : w20.cell? ⟨gb112, 0, none⟩ = some (.string ((rd_T64 l0_1 x26_2).head.pred)) := (blk_cell BK112.out 0).trans rfl; have hcz21_1 : w20.cell? ⟨gb112, 1, none⟩ = some (.slice A111_1 ((rd_T64 l0_1 x26_2).head.args).length c111_1) := (blk_cell BK112.out 1).trans rfl; have hcz21_2 : w20.cell? ⟨gb112, 2, none⟩ = some (.slice A111_2 ((rd_T64 l0_1 x26_2).body).length c111_2) := (blk_cell BK112.out 2).trans rfl; have hfz21_0 := blk_frozen BK112.out 0; have hfz21_1 := blk_frozen BK112.out 1; have hfz21_2 := blk_frozen BK112.out 2))
          go_loopg [3, 39] k2 (fun kq v3 v39 w' => ∃ (x3_3 : List ByteArray) (x39_3 : Int), v39 = .int .i64 x39_3 ∧ Aside0 (strata_Preds.l2 kq x3_3 l0_1 (l0_1.length : Int) x26_2 ((rd_T64 l0_1 x26_2).body) (((rd_T64 l0_1 x26_2).body).length : Int) x39_3 = some r) ∧ Aside0 (kq ≤ k2) ∧ Aside0 (Kd.R Kd.string 9 w' w.heap.size (fun _ => True) v3 x3_3) ∧ Aside0 (w'.heap[gb101]? = some (.cells #[(.slice A0_0 l0_0.length c0_0), (.slice (some ad111) l0_1.length c0_1)] 50 (0, 0))) ∧ Aside0 (w'.heap[gb112]? = some (.cells #[.string ((rd_T64 l0_1 x26_2).head.pred), (.slice A111_1 ((rd_T64 l0_1 x26_2).head.args).length c111_1), (.slice A111_2 ((rd_T64 l0_1 x26_2).body).length c111_2)] 64 (0, 0))) ∧ Aside0 (Below w.heap.size w w'))
          case atStart => exact ⟨(y113), (0), (by first | rfl | (simp; done) | (simp [*]; done)), H', ⟨Nat.le_refl _⟩, ⟨by (with_reducible repeat (first | apply Ra | apply Rn | apply Rd)); exact HO115.out⟩, ⟨by (with_reducible repeat (first | refine bN ?_ _ | refine bD ?_ | refine bA ?_ _)); exact BK101.out⟩, ⟨by (with_reducible repeat (first | refine bN ?_ _ | refine bD ?_ | refine bA ?_ _)); exact BK112.out⟩, ⟨by repeat (first | (with_reducible first | exact HB.out | apply lA | apply lN | apply lD | refine lS ?_ GE101.out | refine lS ?_ GE112.out) | exact HB.out)⟩⟩
          case round =>
           clear H'
           try clear c1
           try clear p1
           try clear q1
           try clear hx1
           try clear p2
           try clear c3
           try clear c4
           try clear c4b0
           try clear c5
           try clear c5b0
           try clear c6
           try clear c6b0
           try clear p6
           try clear c7
           try clear c9
           try clear p10
           try clear q10
           try clear hx10
           try clear c11
           try clear p11
           try clear q11
           try clear hx11
           try clear c13
           try clear c13b0
           try clear c14
           try clear c14b0
           try clear c15
           try clear c15b0
           try clear c16
           try clear c18
           try clear hcz10_0
           try clear hcz10_1
           try clear hcz12_0
           try clear hcz12_1
           try clear hcz19_0
           try clear hcz19_1
           try clear hcz19_2
           try clear hcz21_0
           try clear hcz21_1
           try clear hcz21_2
           try clear hcz3_0
           try clear hcz3_1
           try clear hfz10_0
           try clear hfz10_1
           try clear hfz12_0
           try clear hfz12_1
           try clear hfz19_0
           try clear hfz19_1
           try clear hfz19_2
           try clear hfz21_0
           try clear hfz21_1
           try clear hfz21_2
           try clear hfz3_0
           try clear hfz3_1
           try clear hx102_0
           try clear hx102_1
           try clear hx111_0
           try clear hx111_1
           try clear hx111_2
           try clear p1
           try clear p10
           try clear p102
           try clear p111
           try clear p2
           try clear p6
           try clear q1
           try clear q10
           try clear q102
           try clear q111
           obtain ⟨x3_3, x39_3, rfl, HA, HK3, HO_3, BK101, BK112, HB⟩ := hrel
           cases gk with
           | zero => exact absurd HA.out (by simp [strata_Preds.l2])
           | succ k3 =>
            have H := HA.out
            clear HA
            simp only [strata_Preds.l2] at H
            by_cases c22 : x39_3 < (((rd_T64 l0_1 x26_2).body).length : Int)
            ·rw [if_pos c22] at H
             have c22b0 : decide (x39_3 < (((rd_T64 l0_1 x26_2).body).length : Int)) = true := decide_eq_true c22
             clear c22
             by_cases c23 : 0 ≤ x39_3
             ·rw [if_pos c23] at H
              have c23b0 : decide (0 ≤ x39_3) = true := decide_eq_true c23
              clear c23
              by_cases c24 : x39_3 < (((rd_T64 l0_1 x26_2).body).length : Int)
              ·rw [if_pos c24] at H
               have c24b0 : decide (x39_3 < (((rd_T64 l0_1 x26_2).body).length : Int)) = true := decide_eq_true c24
               clear c24
               by_cases c25 : ((rd_T71 ((rd_T64 l0_1 x26_2).body) x39_3).kind) = 1
               ·rw [if_pos c25] at H
                have c25b0 : (((rd_T71 ((rd_T64 l0_1 x26_2).body) x39_3).kind) == 1) = true := beq_iff_eq.mpr c25
                have c25b1 : (((rd_T71 ((rd_T64 l0_1 x26_2).body) x39_3).kind) != 1) = false := bne_eq_false_iff_eq.mpr c25
                clear c25
                by_cases c26 : x3_3.length < 8796093022208
                ·rw [if_pos c26] at H
                 have LMc26 := am c26
                 clear c26
                 obtain ⟨y118, hy118⟩ : ∃ y_ : List ByteArray, y_ = (x3_3 ++ [(rd_T71 ((rd_T64 l0_1 x26_2).body) x39_3).atom.pred]) := ⟨_, rfl⟩
                 replace H : (strata_Preds.l2 k3 y118 l0_1 (l0_1.length : Int) x26_2 ((rd_T64 l0_1 x26_2).body) (((rd_T64 l0_1 x26_2).body).length : Int) (wrap64 (x39_3 + 1))) = some r := by first | (rw [hy118]; with_reducible exact H) | (have H2_ := (Option.bind_some _ _).symm.trans H; rw [hy118]; with_reducible exact H2_) | (have H2_ := (Option.bind_some _ _).symm.trans H; with_reducible exact H2_) | with_reducible exact H | (rw [hy118]; exact H) | exact H
                 have Ny118 := am hy118
                 clear hy118
                 have H' := am H
                 clear H
                 have p116 : 0 ≤ (x39_3 : Int) := of_decide_eq_true (by first | (with_reducible assumption) | assumption)
                 have q116 : x39_3 < (((rd_T64 l0_1 x26_2).body).length : Int) := of_decide_eq_true (by first | (with_reducible assumption) | assumption)
                 obtain ⟨ad116, A116_2, c116_2, e116, hx116_0, hx116_1, hx116_2, hx116_3, hx116_4, hx116_5, hx116_6, hx116_7, hx116_8, hx116_9, hx116_10, hx116_11, hx116_12, hx116_13, hl116_2, hi116_2⟩ := at_T71 HR111_2.out x39_3 p116 q116
                 cases e116
                 replace hx116_0 := (HB.out.cell (blt_ hx116_0)).trans hx116_0
                 replace hx116_1 := (HB.out.cell (blt_ hx116_1)).trans hx116_1
                 replace hx116_2 := (HB.out.cell (blt_ hx116_2)).trans hx116_2
                 replace hx116_3 := (HB.out.cell (blt_ hx116_3)).trans hx116_3
                 replace hx116_4 := (HB.out.cell (blt_ hx116_4)).trans hx116_4
                 replace hx116_5 := (HB.out.cell (blt_ hx116_5)).trans hx116_5
                 replace hx116_6 := (HB.out.cell (blt_ hx116_6)).trans hx116_6
                 replace hx116_7 := (HB.out.cell (blt_ hx116_7)).trans hx116_7
                 replace hx116_8 := (HB.out.cell (blt_ hx116_8)).trans hx116_8
                 replace hx116_9 := (HB.out.cell (blt_ hx116_9)).trans hx116_9
                 replace hx116_10 := (HB.out.cell (blt_ hx116_10)).trans hx116_10
                 replace hx116_11 := (HB.out.cell (blt_ hx116_11)).trans hx116_11
                 replace hx116_12 := (HB.out.cell (blt_ hx116_12)).trans hx116_12
                 replace hx116_13 := (HB.out.cell (blt_ hx116_13)).trans hx116_13
                 have HR116_2 := am hi116_2
                 have HC116_2 := am hl116_2
                 clear hi116_2 hl116_2
                 replace p116 := eq_true p116
                 replace q116 := eq_true q116
                 go_wp2_with (first | ((with_reducible refine gate_dst (N := 9) rfl ?_); refine box_event ?hg (N := 9) ?hd (cs := #[.int .i64 0, .string (⟨#[]⟩ : ByteArray), .slice none 0 0, .string (⟨#[]⟩ : ByteArray), .bool false, .string (⟨#[]⟩ : ByteArray), .bool false, .string (⟨#[]⟩ : ByteArray), .int .i64 0, .bool false, .string (⟨#[]⟩ : ByteArray), .bool false, .string (⟨#[]⟩ : ByteArray), .int .i64 0]) (t := 71) ?hr ?_; (case hd => rfl); (case hg => rfl); (case hr => first | (go_simp; done) | (go_simp; rfl)); intro gb117 hg w27 hbox hb; replace HO_3 := am (Kd.R_below (by (with_reducible repeat (first | apply Ra | apply Rn | apply Rd)); exact HO_3.out) hb); have BK117 := am (hbox); have GW117 := am ((by rw [hg]; exact (below_size (by repeat (first | (with_reducible first | exact HB.out | apply lA | apply lN | apply lD | refine lS ?_ GE101.out | refine lS ?_ GE112.out) | exact HB.out))) : w.heap.size ≤ gb117)); have GE117 := am ((by rw [hg]; exact (below_size (by repeat (first | (with_reducible first | exact HB.out | apply lA | apply lN | apply lD | refine lS ?_ GE101.out | refine lS ?_ GE112.out) | exact HB.out))) : w.heap.size ≤ gb117)); replace HB := am (below_step (by repeat (first | (with_reducible first | exact HB.out | apply lA | apply lN | apply lD | refine lS ?_ GE101.out | refine lS ?_ GE112.out) | exact HB.out)) hb); have NB101_117 := am ((by rw [hg]; exact Nat.ne_of_lt (blk_lt (g := gb101) (o := .cells #[.slice A0_0 l0_0.length c0_0, .slice (some ad111) l0_1.length c0_1] 50 (0, 0)) (by (with_reducible repeat (first | refine bN ?_ _ | refine bD ?_ | refine bA ?_ _)); exact BK101.out)) : gb101 ≠ gb117)); have NB117_101 := am ((by rw [hg]; exact Nat.ne_of_gt (blk_lt (g := gb101) (o := .cells #[.slice A0_0 l0_0.length c0_0, .slice (some ad111) l0_1.length c0_1] 50 (0, 0)) (by (with_reducible repeat (first | refine bN ?_ _ | refine bD ?_ | refine bA ?_ _)); exact BK101.out)) : gb117 ≠ gb101)); replace BK101 := am (blk_below (g := gb101) (o := .cells #[.slice A0_0 l0_0.length c0_0, .slice (some ad111) l0_1.length c0_1] 50 (0, 0)) (by (with_reducible repeat (first | refine bN ?_ _ | refine bD ?_ | refine bA ?_ _)); exact BK101.out) hb); have NB112_117 := am ((by rw [hg]; exact Nat.ne_of_lt (blk_lt (g := gb112) (o := .cells #[.string ((rd_T64 l0_1 x26_2).head.pred), .slice A111_1 ((rd_T64 l0_1 x26_2).head.args).length c111_1, .slice (some ad116) ((rd_T64 l0_1 x26_2).body).length c111_2] 64 (0, 0)) (by (with_reducible repeat (first | refine bN ?_ _ | refine bD ?_ | refine bA ?_ _)); exact BK112.out)) : gb112 ≠ gb117)); have NB117_112 := am ((by rw [hg]; exact Nat.ne_of_gt (blk_lt (g := gb112) (o := .cells #[.string ((rd_T64 l0_1 x26_2).head.pred), .slice A111_1 ((rd_T64 l0_1 x26_2).head.args).length c111_1, .slice (some ad116) ((rd_T64 l0_1 x26_2).body).length c111_2] 64 (0, 0)) (by (with_reducible repeat (first | refine bN ?_ _ | refine bD ?_ | refine bA ?_ _)); exact BK112.out)) : gb117 ≠ gb112)); replace BK112 := am (blk_below (g := gb112) (o := .cells #[.string ((rd_T64 l0_1 x26_2).head.pred), .slice A111_1 ((rd_T64 l0_1 x26_2).head.args).length c111_1, .slice (some ad116) ((rd_T64 l0_1 x26_2).body).length c111_2] 64 (0, 0)) (by (with_reducible repeat (first | refine bN ?_ _ | refine bD ?_ | refine bA ?_ _)); exact BK112.out) hb); clear hb hbox hg; have hnb28 := NB117_101.out; have hnc28 := NB101_117.out; have hnb29 := NB117_112.out; have hnc29 := NB112_117.out; have hcz30_0 : w27.cell? ⟨gb117, 0, none⟩ = some (.int .i64 0) := (blk_cell BK117.out 0).trans rfl; have hcz30_1 : w27.cell? ⟨gb117, 1, none⟩ = some (.string (⟨#[]⟩ : ByteArray)) := (blk_cell BK117.out 1).trans rfl; have hcz30_2 : w27.cell? ⟨gb117, 2, none⟩ = some (.slice none 0 0) := (blk_cell BK117.out 2).trans rfl; have hcz30_3 : w27.cell? ⟨gb117, 3, none⟩ = some (.string (⟨#[]⟩ : ByteArray)) := (blk_cell BK117.out 3).trans rfl; have hcz30_4 : w27.cell? ⟨gb117, 4, none⟩ = some (.bool false) := (blk_cell BK117.out 4).trans rfl; have hcz30_5 : w27.cell? ⟨gb117, 5, none⟩ = some (.string (⟨#[]⟩ : ByteArray)) := (blk_cell BK117.out 5).trans rfl; have hcz30_6 : w27.cell? ⟨gb117, 6, none⟩ = some (.bool false) := (blk_cell BK117.out 6).trans rfl; have hcz30_7 : w27.cell? ⟨gb117, 7, none⟩ = some (.string (⟨#[]⟩ : ByteArray)) := (blk_cell BK117.out 7).trans rfl; have hcz30_8 : w27.cell? ⟨gb117, 8, none⟩ = some (.int .i64 0) := (blk_cell BK117.out 8).trans rfl; have hcz30_9 : w27.cell? ⟨gb117, 9, none⟩ = some (.bool false) := (blk_cell BK117.out 9).trans rfl; have hcz30_10 : w27.cell? ⟨gb117, 10, none⟩ = some (.string (⟨#[]⟩ : ByteArray)) := (blk_cell BK117.out 10).trans rfl; have hcz30_11 : w27.cell? ⟨gb117, 11, none⟩ = some (.bool false) := (blk_cell BK117.out 11).trans rfl; have hcz30_12 : w27.cell? ⟨gb117, 12, none⟩ = some (.string (⟨#[]⟩ : ByteArray)) := (blk_cell BK117.out 12).trans rfl; have hcz30_13 : w27.cell? ⟨gb117, 13, none⟩ = some (.int .i64 0) := (blk_cell BK117.out 13).trans rfl; have hfz30_0 := blk_frozen BK117.out 0; have hfz30_1 := blk_frozen BK117.out 1; have hfz30_2 := blk_frozen BK117.out 2; have hfz30_3 := blk_frozen BK117.out 3; have hfz30_4 := blk_frozen BK117.out 4; have hfz30_5 := blk_frozen BK117.out 5; have hfz30_6 := blk_frozen BK117.out 6; have hfz30_7 := blk_frozen BK117.out 7; have hfz30_8 := blk_frozen BK117.out 8; have hfz30_9 := blk_frozen BK117.out 9; have hfz30_10 := blk_frozen BK117.out 10; have hfz30_11 := blk_frozen BK117.out 11; have hfz30_12 := blk_frozen BK117.out 12; have hfz30_13 := blk_frozen BK117.out 13) | ((with_reducible refine gate_builtin (b := .append) (xs := #[.tmp 51, .tmp 55]) rfl ?_); at_builtin; refine Kd.R_append Kd.string (w0 := w) w.heap.size rfl (.tmp 51) (.tmp 55) 52 9 (.string ⟨#[]⟩) 16 rfl Try.underlying52 info9 rfl (by decide) (by omega) u3 x3_3 ((rd_T71 ((rd_T64 l0_1 x26_2).body) x39_3).atom.pred) [.string ((rd_T71 ((rd_T64 l0_1 x26_2).body) x39_3).atom.pred)] (fun _ => True) (fun _ => False) rfl (by first | (go_simp; done) | (go_simp; rfl)) ?aP (fun _ hk => hk.elim) ?aF ?aO ?aB ?aS ?aL ?_; (case aP => exact rfl); (case aB => exact (by repeat (first | (with_reducible first | exact HB.out | apply lA | apply lN | apply lD | refine lS ?_ GE101.out | refine lS ?_ GE112.out | refine lS ?_ GE117.out) | exact HB.out))); (case aF => exact (fun _ _ => trivial)); (case aO => exact (by (with_reducible repeat (first | apply Ra | apply Rn | apply Rd)); exact Kd.R_mono (Kd.R_far (p := ⟨gb117, 13, none⟩) (Kd.R_far (p := ⟨gb117, 12, none⟩) (Kd.R_far (p := ⟨gb117, 11, none⟩) (Kd.R_far (p := ⟨gb117, 10, none⟩) (Kd.R_far (p := ⟨gb117, 9, none⟩) (Kd.R_far (p := ⟨gb117, 8, none⟩) (Kd.R_far (p := ⟨gb117, 7, none⟩) (Kd.R_far (p := ⟨gb117, 6, none⟩) (Kd.R_far (p := ⟨gb117, 5, none⟩) (Kd.R_far (p := ⟨gb117, 4, none⟩) (Kd.R_far (p := ⟨gb117, 3, none⟩) (Kd.R_far (p := ⟨gb117, 2, none⟩) (Kd.R_far (p := ⟨gb117, 1, none⟩) (Kd.R_far (p := ⟨gb117, 0, none⟩) (Kd.R_types HO_3.out BK117.out (by decide)) (fun _ hk => hk.2) _) (fun _ hk => hk.2) _) (fun _ hk => hk.2) _) (fun _ hk => hk.2) _) (fun _ hk => hk.2) _) (fun _ hk => hk.2) _) (fun _ hk => hk.2) _) (fun _ hk => hk.2) _) (fun _ hk => hk.2) _) (fun _ hk => hk.2) _) (fun _ hk => hk.2) _) (fun _ hk => hk.2) _) (fun _ hk => hk.2) _) (fun _ hk => hk.2) _) (fun _ hk => trivial))); (case aS => exact (below_size (by repeat (first | (with_reducible first | exact HB.out | apply lA | apply lN | apply lD | refine lS ?_ GE101.out | refine lS ?_ GE112.out | refine lS ?_ GE117.out) | exact HB.out)))); (case aL => have := LMc26.out; omega); intro v119 w31 ho hb hg hat; rw [← Ny118.out] at ho; replace BK101 := am (blk_grown (g := gb101) (o := .cells #[.slice A0_0 l0_0.length c0_0, .slice (some ad111) l0_1.length c0_1] 50 (0, 0)) (by repeat (first | (with_reducible first | exact BK101.out | refine bN ?_ _ | refine bD ?_ | refine bA ?_ _) | refine blk_far ?_ NB101_117.out _ | exact BK101.out)) hg (Kd.R_ne HO_3.out BK101.out (by decide))); replace BK112 := am (blk_grown (g := gb112) (o := .cells #[.string ((rd_T64 l0_1 x26_2).head.pred), .slice A111_1 ((rd_T64 l0_1 x26_2).head.args).length c111_1, .slice (some ad116) ((rd_T64 l0_1 x26_2).body).length c111_2] 64 (0, 0)) (by repeat (first | (with_reducible first | exact BK112.out | refine bN ?_ _ | refine bD ?_ | refine bA ?_ _) | refine blk_far ?_ NB112_117.out _ | exact BK112.out)) hg (Kd.R_ne HO_3.out BK112.out (by decide))); replace BK117 := am (blk_grown (g := gb117) (o := .cells #[.int .i64 ((rd_T71 ((rd_T64 l0_1 x26_2).body) x39_3).kind), .string ((rd_T71 ((rd_T64 l0_1 x26_2).body) x39_3).atom.pred), .slice A116_2 ((rd_T71 ((rd_T64 l0_1 x26_2).body) x39_3).atom.args).length c116_2, .string ((rd_T71 ((rd_T64 l0_1 x26_2).body) x39_3).op), .bool ((rd_T71 ((rd_T64 l0_1 x26_2).body) x39_3).l.isVar), .string ((rd_T71 ((rd_T64 l0_1 x26_2).body) x39_3).l.name), .bool ((rd_T71 ((rd_T64 l0_1 x26_2).body) x39_3).l.val.isSym), .string ((rd_T71 ((rd_T64 l0_1 x26_2).body) x39_3).l.val.sym), .int .i64 ((rd_T71 ((rd_T64 l0_1 x26_2).body) x39_3).l.val.n), .bool ((rd_T71 ((rd_T64 l0_1 x26_2).body) x39_3).r.isVar), .string ((rd_T71 ((rd_T64 l0_1 x26_2).body) x39_3).r.name), .bool ((rd_T71 ((rd_T64 l0_1 x26_2).body) x39_3).r.val.isSym), .string ((rd_T71 ((rd_T64 l0_1 x26_2).body) x39_3).r.val.sym), .int .i64 ((rd_T71 ((rd_T64 l0_1 x26_2).body) x39_3).r.val.n)] 71 (0, 0)) (by (with_reducible repeat (first | refine bN ?_ _ | refine bD ?_ | refine bA ?_ _)); refine blk_put (cs := #[.int .i64 ((rd_T71 ((rd_T64 l0_1 x26_2).body) x39_3).kind), .string ((rd_T71 ((rd_T64 l0_1 x26_2).body) x39_3).atom.pred), .slice A116_2 ((rd_T71 ((rd_T64 l0_1 x26_2).body) x39_3).atom.args).length c116_2, .string ((rd_T71 ((rd_T64 l0_1 x26_2).body) x39_3).op), .bool ((rd_T71 ((rd_T64 l0_1 x26_2).body) x39_3).l.isVar), .string ((rd_T71 ((rd_T64 l0_1 x26_2).body) x39_3).l.name), .bool ((rd_T71 ((rd_T64 l0_1 x26_2).body) x39_3).l.val.isSym), .string ((rd_T71 ((rd_T64 l0_1 x26_2).body) x39_3).l.val.sym), .int .i64 ((rd_T71 ((rd_T64 l0_1 x26_2).body) x39_3).l.val.n), .bool ((rd_T71 ((rd_T64 l0_1 x26_2).body) x39_3).r.isVar), .string ((rd_T71 ((rd_T64 l0_1 x26_2).body) x39_3).r.name), .bool ((rd_T71 ((rd_T64 l0_1 x26_2).body) x39_3).r.val.isSym), .string ((rd_T71 ((rd_T64 l0_1 x26_2).body) x39_3).r.val.sym), .int .i64 0]) ?_ 13 _ rfl; (with_reducible repeat (first | refine bN ?_ _ | refine bD ?_ | refine bA ?_ _)); refine blk_put (cs := #[.int .i64 ((rd_T71 ((rd_T64 l0_1 x26_2).body) x39_3).kind), .string ((rd_T71 ((rd_T64 l0_1 x26_2).body) x39_3).atom.pred), .slice A116_2 ((rd_T71 ((rd_T64 l0_1 x26_2).body) x39_3).atom.args).length c116_2, .string ((rd_T71 ((rd_T64 l0_1 x26_2).body) x39_3).op), .bool ((rd_T71 ((rd_T64 l0_1 x26_2).body) x39_3).l.isVar), .string ((rd_T71 ((rd_T64 l0_1 x26_2).body) x39_3).l.name), .bool ((rd_T71 ((rd_T64 l0_1 x26_2).body) x39_3).l.val.isSym), .string ((rd_T71 ((rd_T64 l0_1 x26_2).body) x39_3).l.val.sym), .int .i64 ((rd_T71 ((rd_T64 l0_1 x26_2).body) x39_3).l.val.n), .bool ((rd_T71 ((rd_T64 l0_1 x26_2).body) x39_3).r.isVar), .string ((rd_T71 ((rd_T64 l0_1 x26_2).body) x39_3).r.name), .bool ((rd_T71 ((rd_T64 l0_1 x26_2).body) x39_3).r.val.isSym), .string (⟨#[]⟩ : ByteArray), .int .i64 0]) ?_ 12 _ rfl; (with_reducible repeat (first | refine bN ?_ _ | refine bD ?_ | refine bA ?_ _)); refine blk_put (cs := #[.int .i64 ((rd_T71 ((rd_T64 l0_1 x26_2).body) x39_3).kind), .string ((rd_T71 ((rd_T64 l0_1 x26_2).body) x39_3).atom.pred), .slice A116_2 ((rd_T71 ((rd_T64 l0_1 x26_2).body) x39_3).atom.args).length c116_2, .string ((rd_T71 ((rd_T64 l0_1 x26_2).body) x39_3).op), .bool ((rd_T71 ((rd_T64 l0_1 x26_2).body) x39_3).l.isVar), .string ((rd_T71 ((rd_T64 l0_1 x26_2).body) x39_3).l.name), .bool ((rd_T71 ((rd_T64 l0_1 x26_2).body) x39_3).l.val.isSym), .string ((rd_T71 ((rd_T64 l0_1 x26_2).body) x39_3).l.val.sym), .int .i64 ((rd_T71 ((rd_T64 l0_1 x26_2).body) x39_3).l.val.n), .bool ((rd_T71 ((rd_T64 l0_1 x26_2).body) x39_3).r.isVar), .string ((rd_T71 ((rd_T64 l0_1 x26_2).body) x39_3).r.name), .bool false, .string (⟨#[]⟩ : ByteArray), .int .i64 0]) ?_ 11 _ rfl; (with_reducible repeat (first | refine bN ?_ _ | refine bD ?_ | refine bA ?_ _)); refine blk_put (cs := #[.int .i64 ((rd_T71 ((rd_T64 l0_1 x26_2).body) x39_3).kind), .string ((rd_T71 ((rd_T64 l0_1 x26_2).body) x39_3).atom.pred), .slice A116_2 ((rd_T71 ((rd_T64 l0_1 x26_2).body) x39_3).atom.args).length c116_2, .string ((rd_T71 ((rd_T64 l0_1 x26_2).body) x39_3).op), .bool ((rd_T71 ((rd_T64 l0_1 x26_2).body) x39_3).l.isVar), .string ((rd_T71 ((rd_T64 l0_1 x26_2).body) x39_3).l.name), .bool ((rd_T71 ((rd_T64 l0_1 x26_2).body) x39_3).l.val.isSym), .string ((rd_T71 ((rd_T64 l0_1 x26_2).body) x39_3).l.val.sym), .int .i64 ((rd_T71 ((rd_T64 l0_1 x26_2).body) x39_3).l.val.n), .bool ((rd_T71 ((rd_T64 l0_1 x26_2).body) x39_3).r.isVar), .string (⟨#[]⟩ : ByteArray), .bool false, .string (⟨#[]⟩ : ByteArray), .int .i64 0]) ?_ 10 _ rfl; (with_reducible repeat (first | refine bN ?_ _ | refine bD ?_ | refine bA ?_ _)); refine blk_put (cs := #[.int .i64 ((rd_T71 ((rd_T64 l0_1 x26_2).body) x39_3).kind), .string ((rd_T71 ((rd_T64 l0_1 x26_2).body) x39_3).atom.pred), .slice A116_2 ((rd_T71 ((rd_T64 l0_1 x26_2).body) x39_3).atom.args).length c116_2, .string ((rd_T71 ((rd_T64 l0_1 x26_2).body) x39_3).op), .bool ((rd_T71 ((rd_T64 l0_1 x26_2).body) x39_3).l.isVar), .string ((rd_T71 ((rd_T64 l0_1 x26_2).body) x39_3).l.name), .bool ((rd_T71 ((rd_T64 l0_1 x26_2).body) x39_3).l.val.isSym), .string ((rd_T71 ((rd_T64 l0_1 x26_2).body) x39_3).l.val.sym), .int .i64 ((rd_T71 ((rd_T64 l0_1 x26_2).body) x39_3).l.val.n), .bool false, .string (⟨#[]⟩ : ByteArray), .bool false, .string (⟨#[]⟩ : ByteArray), .int .i64 0]) ?_ 9 _ rfl; (with_reducible repeat (first | refine bN ?_ _ | refine bD ?_ | refine bA ?_ _)); refine blk_put (cs := #[.int .i64 ((rd_T71 ((rd_T64 l0_1 x26_2).body) x39_3).kind), .string ((rd_T71 ((rd_T64 l0_1 x26_2).body) x39_3).atom.pred), .slice A116_2 ((rd_T71 ((rd_T64 l0_1 x26_2).body) x39_3).atom.args).length c116_2, .string ((rd_T71 ((rd_T64 l0_1 x26_2).body) x39_3).op), .bool ((rd_T71 ((rd_T64 l0_1 x26_2).body) x39_3).l.isVar), .string ((rd_T71 ((rd_T64 l0_1 x26_2).body) x39_3).l.name), .bool ((rd_T71 ((rd_T64 l0_1 x26_2).body) x39_3).l.val.isSym), .string ((rd_T71 ((rd_T64 l0_1 x26_2).body) x39_3).l.val.sym), .int .i64 0, .bool false, .string (⟨#[]⟩ : ByteArray), .bool false, .string (⟨#[]⟩ : ByteArray), .int .i64 0]) ?_ 8 _ rfl; (with_reducible repeat (first | refine bN ?_ _ | refine bD ?_ | refine bA ?_ _)); refine blk_put (cs := #[.int .i64 ((rd_T71 ((rd_T64 l0_1 x26_2).body) x39_3).kind), .string ((rd_T71 ((rd_T64 l0_1 x26_2).body) x39_3).atom.pred), .slice A116_2 ((rd_T71 ((rd_T64 l0_1 x26_2).body) x39_3).atom.args).length c116_2, .string ((rd_T71 ((rd_T64 l0_1 x26_2).body) x39_3).op), .bool ((rd_T71 ((rd_T64 l0_1 x26_2).body) x39_3).l.isVar), .string ((rd_T71 ((rd_T64 l0_1 x26_2).body) x39_3).l.name), .bool ((rd_T71 ((rd_T64 l0_1 x26_2).body) x39_3).l.val.isSym), .string (⟨#[]⟩ : ByteArray), .int .i64 0, .bool false, .string (⟨#[]⟩ : ByteArray), .bool false, .string (⟨#[]⟩ : ByteArray), .int .i64 0]) ?_ 7 _ rfl; (with_reducible repeat (first | refine bN ?_ _ | refine bD ?_ | refine bA ?_ _)); refine blk_put (cs := #[.int .i64 ((rd_T71 ((rd_T64 l0_1 x26_2).body) x39_3).kind), .string ((rd_T71 ((rd_T64 l0_1 x26_2).body) x39_3).atom.pred), .slice A116_2 ((rd_T71 ((rd_T64 l0_1 x26_2).body) x39_3).atom.args).length c116_2, .string ((rd_T71 ((rd_T64 l0_1 x26_2).body) x39_3).op), .bool ((rd_T71 ((rd_T64 l0_1 x26_2).body) x39_3).l.isVar), .string ((rd_T71 ((rd_T64 l0_1 x26_2).body) x39_3).l.name), .bool false, .string (⟨#[]⟩ : ByteArray), .int .i64 0, .bool false, .string (⟨#[]⟩ : ByteArray), .bool false, .string (⟨#[]⟩ : ByteArray), .int .i64 0]) ?_ 6 _ rfl; (with_reducible repeat (first | refine bN ?_ _ | refine bD ?_ | refine bA ?_ _)); refine blk_put (cs := #[.int .i64 ((rd_T71 ((rd_T64 l0_1 x26_2).body) x39_3).kind), .string ((rd_T71 ((rd_T64 l0_1 x26_2).body) x39_3).atom.pred), .slice A116_2 ((rd_T71 ((rd_T64 l0_1 x26_2).body) x39_3).atom.args).length c116_2, .string ((rd_T71 ((rd_T64 l0_1 x26_2).body) x39_3).op), .bool ((rd_T71 ((rd_T64 l0_1 x26_2).body) x39_3).l.isVar), .string (⟨#[]⟩ : ByteArray), .bool false, .string (⟨#[]⟩ : ByteArray), .int .i64 0, .bool false, .string (⟨#[]⟩ : ByteArray), .bool false, .string (⟨#[]⟩ : ByteArray), .int .i64 0]) ?_ 5 _ rfl; (with_reducible repeat (first | refine bN ?_ _ | refine bD ?_ | refine bA ?_ _)); refine blk_put (cs := #[.int .i64 ((rd_T71 ((rd_T64 l0_1 x26_2).body) x39_3).kind), .string ((rd_T71 ((rd_T64 l0_1 x26_2).body) x39_3).atom.pred), .slice A116_2 ((rd_T71 ((rd_T64 l0_1 x26_2).body) x39_3).atom.args).length c116_2, .string ((rd_T71 ((rd_T64 l0_1 x26_2).body) x39_3).op), .bool false, .string (⟨#[]⟩ : ByteArray), .bool false, .string (⟨#[]⟩ : ByteArray), .int .i64 0, .bool false, .string (⟨#[]⟩ : ByteArray), .bool false, .string (⟨#[]⟩ : ByteArray), .int .i64 0]) ?_ 4 _ rfl; (with_reducible repeat (first | refine bN ?_ _ | refine bD ?_ | refine bA ?_ _)); refine blk_put (cs := #[.int .i64 ((rd_T71 ((rd_T64 l0_1 x26_2).body) x39_3).kind), .string ((rd_T71 ((rd_T64 l0_1 x26_2).body) x39_3).atom.pred), .slice A116_2 ((rd_T71 ((rd_T64 l0_1 x26_2).body) x39_3).atom.args).length c116_2, .string (⟨#[]⟩ : ByteArray), .bool false, .string (⟨#[]⟩ : ByteArray), .bool false, .string (⟨#[]⟩ : ByteArray), .int .i64 0, .bool false, .string (⟨#[]⟩ : ByteArray), .bool false, .string (⟨#[]⟩ : ByteArray), .int .i64 0]) ?_ 3 _ rfl; (with_reducible repeat (first | refine bN ?_ _ | refine bD ?_ | refine bA ?_ _)); refine blk_put (cs := #[.int .i64 ((rd_T71 ((rd_T64 l0_1 x26_2).body) x39_3).kind), .string ((rd_T71 ((rd_T64 l0_1 x26_2).body) x39_3).atom.pred), .slice none 0 0, .string (⟨#[]⟩ : ByteArray), .bool false, .string (⟨#[]⟩ : ByteArray), .bool false, .string (⟨#[]⟩ : ByteArray), .int .i64 0, .bool false, .string (⟨#[]⟩ : ByteArray), .bool false, .string (⟨#[]⟩ : ByteArray), .int .i64 0]) ?_ 2 _ rfl; (with_reducible repeat (first | refine bN ?_ _ | refine bD ?_ | refine bA ?_ _)); refine blk_put (cs := #[.int .i64 ((rd_T71 ((rd_T64 l0_1 x26_2).body) x39_3).kind), .string (⟨#[]⟩ : ByteArray), .slice none 0 0, .string (⟨#[]⟩ : ByteArray), .bool false, .string (⟨#[]⟩ : ByteArray), .bool false, .string (⟨#[]⟩ : ByteArray), .int .i64 0, .bool false, .string (⟨#[]⟩ : ByteArray), .bool false, .string (⟨#[]⟩ : ByteArray), .int .i64 0]) ?_ 1 _ rfl; (with_reducible repeat (first | refine bN ?_ _ | refine bD ?_ | refine bA ?_ _)); refine blk_put (cs := #[.int .i64 0, .string (⟨#[]⟩ : ByteArray), .slice none 0 0, .string (⟨#[]⟩ : ByteArray), .bool false, .string (⟨#[]⟩ : ByteArray), .bool false, .string (⟨#[]⟩ : ByteArray), .int .i64 0, .bool false, .string (⟨#[]⟩ : ByteArray), .bool false, .string (⟨#[]⟩ : ByteArray), .int .i64 0]) ?_ 0 _ rfl; (with_reducible repeat (first | refine bN ?_ _ | refine bD ?_ | refine bA ?_ _)); exact BK117.out) hg (Kd.R_ne HO_3.out BK117.out (by decide))); replace HB := am (hb); have HO120 := am (ho); clear HO_3; clear ho hb hg hat))
                 go_roundg k3
                 case measure => have := HK1.out; have := HK2.out; have := HK3.out; omega
                 case rel => exact ⟨(y118), (wrap64 (x39_3 + 1)), (by first | rfl | (simp; done) | (simp [*]; done)), H', ⟨by have := HK1.out; have := HK2.out; have := HK3.out; omega⟩, ⟨by (with_reducible repeat (first | apply Ra | apply Rn | apply Rd)); exact HO120.out⟩, ⟨by (with_reducible repeat (first | refine bN ?_ _ | refine bD ?_ | refine bA ?_ _)); exact BK101.out⟩, ⟨by (with_reducible repeat (first | refine bN ?_ _ | refine bD ?_ | refine bA ?_ _)); exact BK112.out⟩, ⟨by repeat (first | (with_reducible first | exact HB.out | apply lA | apply lN | apply lD | refine lS ?_ GE101.out | refine lS ?_ GE112.out | refine lS ?_ GE117.out) | exact HB.out)⟩⟩
                ·rw [if_neg c26] at H
                 exact absurd H (by simp)
               ·rw [if_neg c25] at H
                have c25b0 : (((rd_T71 ((rd_T64 l0_1 x26_2).body) x39_3).kind) == 1) = false := beq_eq_false_iff_ne.mpr c25
                have c25b1 : (((rd_T71 ((rd_T64 l0_1 x26_2).body) x39_3).kind) != 1) = true := bne_iff_ne.mpr c25
                by_cases c32 : ((rd_T71 ((rd_T64 l0_1 x26_2).body) x39_3).kind) = 2
                ·rw [if_pos c32] at H
                 have c32b0 : (((rd_T71 ((rd_T64 l0_1 x26_2).body) x39_3).kind) == 2) = true := beq_iff_eq.mpr c32
                 have c32b1 : (((rd_T71 ((rd_T64 l0_1 x26_2).body) x39_3).kind) != 2) = false := bne_eq_false_iff_eq.mpr c32
                 clear c32
                 by_cases c33 : x3_3.length < 8796093022208
                 ·rw [if_pos c33] at H
                  have LMc33 := am c33
                  clear c33
                  obtain ⟨y121, hy121⟩ : ∃ y_ : List ByteArray, y_ = (x3_3 ++ [(rd_T71 ((rd_T64 l0_1 x26_2).body) x39_3).atom.pred]) := ⟨_, rfl⟩
                  replace H : (strata_Preds.l2 k3 y121 l0_1 (l0_1.length : Int) x26_2 ((rd_T64 l0_1 x26_2).body) (((rd_T64 l0_1 x26_2).body).length : Int) (wrap64 (x39_3 + 1))) = some r := by first | (rw [hy121]; with_reducible exact H) | (have H2_ := (Option.bind_some _ _).symm.trans H; rw [hy121]; with_reducible exact H2_) | (have H2_ := (Option.bind_some _ _).symm.trans H; with_reducible exact H2_) | with_reducible exact H | (rw [hy121]; exact H) | exact H
                  have Ny121 := am hy121
                  clear hy121
                  have H' := am H
                  clear H
                  have p116 : 0 ≤ (x39_3 : Int) := of_decide_eq_true (by first | (with_reducible assumption) | assumption)
                  have q116 : x39_3 < (((rd_T64 l0_1 x26_2).body).length : Int) := of_decide_eq_true (by first | (with_reducible assumption) | assumption)
                  obtain ⟨ad116, A116_2, c116_2, e116, hx116_0, hx116_1, hx116_2, hx116_3, hx116_4, hx116_5, hx116_6, hx116_7, hx116_8, hx116_9, hx116_10, hx116_11, hx116_12, hx116_13, hl116_2, hi116_2⟩ := at_T71 HR111_2.out x39_3 p116 q116
                  cases e116
                  replace hx116_0 := (HB.out.cell (blt_ hx116_0)).trans hx116_0
                  replace hx116_1 := (HB.out.cell (blt_ hx116_1)).trans hx116_1
                  replace hx116_2 := (HB.out.cell (blt_ hx116_2)).trans hx116_2
                  replace hx116_3 := (HB.out.cell (blt_ hx116_3)).trans hx116_3
                  replace hx116_4 := (HB.out.cell (blt_ hx116_4)).trans hx116_4
                  replace hx116_5 := (HB.out.cell (blt_ hx116_5)).trans hx116_5
                  replace hx116_6 := (HB.out.cell (blt_ hx116_6)).trans hx116_6
                  replace hx116_7 := (HB.out.cell (blt_ hx116_7)).trans hx116_7
                  replace hx116_8 := (HB.out.cell (blt_ hx116_8)).trans hx116_8
                  replace hx116_9 := (HB.out.cell (blt_ hx116_9)).trans hx116_9
                  replace hx116_10 := (HB.out.cell (blt_ hx116_10)).trans hx116_10
                  replace hx116_11 := (HB.out.cell (blt_ hx116_11)).trans hx116_11
                  replace hx116_12 := (HB.out.cell (blt_ hx116_12)).trans hx116_12
                  replace hx116_13 := (HB.out.cell (blt_ hx116_13)).trans hx116_13
                  have HR116_2 := am hi116_2
                  have HC116_2 := am hl116_2
                  clear hi116_2 hl116_2
                  replace p116 := eq_true p116
                  replace q116 := eq_true q116
                  go_wp2_with (first | ((with_reducible refine gate_dst (N := 9) rfl ?_); refine box_event ?hg (N := 9) ?hd (cs := #[.int .i64 0, .string (⟨#[]⟩ : ByteArray), .slice none 0 0, .string (⟨#[]⟩ : ByteArray), .bool false, .string (⟨#[]⟩ : ByteArray), .bool false, .string (⟨#[]⟩ : ByteArray), .int .i64 0, .bool false, .string (⟨#[]⟩ : ByteArray), .bool false, .string (⟨#[]⟩ : ByteArray), .int .i64 0]) (t := 71) ?hr ?_; (case hd => rfl); (case hg => rfl); (case hr => first | (go_simp; done) | (go_simp; rfl)); intro gb117 hg w34 hbox hb; replace HO_3 := am (Kd.R_below (by (with_reducible repeat (first | apply Ra | apply Rn | apply Rd)); exact HO_3.out) hb); have BK117 := am (hbox); have GW117 := am ((by rw [hg]; exact (below_size (by repeat (first | (with_reducible first | exact HB.out | apply lA | apply lN | apply lD | refine lS ?_ GE101.out | refine lS ?_ GE112.out) | exact HB.out))) : w.heap.size ≤ gb117)); have GE117 := am ((by rw [hg]; exact (below_size (by repeat (first | (with_reducible first | exact HB.out | apply lA | apply lN | apply lD | refine lS ?_ GE101.out | refine lS ?_ GE112.out) | exact HB.out))) : w.heap.size ≤ gb117)); replace HB := am (below_step (by repeat (first | (with_reducible first | exact HB.out | apply lA | apply lN | apply lD | refine lS ?_ GE101.out | refine lS ?_ GE112.out) | exact HB.out)) hb); have NB101_117 := am ((by rw [hg]; exact Nat.ne_of_lt (blk_lt (g := gb101) (o := .cells #[.slice A0_0 l0_0.length c0_0, .slice (some ad111) l0_1.length c0_1] 50 (0, 0)) (by (with_reducible repeat (first | refine bN ?_ _ | refine bD ?_ | refine bA ?_ _)); exact BK101.out)) : gb101 ≠ gb117)); have NB117_101 := am ((by rw [hg]; exact Nat.ne_of_gt (blk_lt (g := gb101) (o := .cells #[.slice A0_0 l0_0.length c0_0, .slice (some ad111) l0_1.length c0_1] 50 (0, 0)) (by (with_reducible repeat (first | refine bN ?_ _ | refine bD ?_ | refine bA ?_ _)); exact BK101.out)) : gb117 ≠ gb101)); replace BK101 := am (blk_below (g := gb101) (o := .cells #[.slice A0_0 l0_0.length c0_0, .slice (some ad111) l0_1.length c0_1] 50 (0, 0)) (by (with_reducible repeat (first | refine bN ?_ _ | refine bD ?_ | refine bA ?_ _)); exact BK101.out) hb); have NB112_117 := am ((by rw [hg]; exact Nat.ne_of_lt (blk_lt (g := gb112) (o := .cells #[.string ((rd_T64 l0_1 x26_2).head.pred), .slice A111_1 ((rd_T64 l0_1 x26_2).head.args).length c111_1, .slice (some ad116) ((rd_T64 l0_1 x26_2).body).length c111_2] 64 (0, 0)) (by (with_reducible repeat (first | refine bN ?_ _ | refine bD ?_ | refine bA ?_ _)); exact BK112.out)) : gb112 ≠ gb117)); have NB117_112 := am ((by rw [hg]; exact Nat.ne_of_gt (blk_lt (g := gb112) (o := .cells #[.string ((rd_T64 l0_1 x26_2).head.pred), .slice A111_1 ((rd_T64 l0_1 x26_2).head.args).length c111_1, .slice (some ad116) ((rd_T64 l0_1 x26_2).body).length c111_2] 64 (0, 0)) (by (with_reducible repeat (first | refine bN ?_ _ | refine bD ?_ | refine bA ?_ _)); exact BK112.out)) : gb117 ≠ gb112)); replace BK112 := am (blk_below (g := gb112) (o := .cells #[.string ((rd_T64 l0_1 x26_2).head.pred), .slice A111_1 ((rd_T64 l0_1 x26_2).head.args).length c111_1, .slice (some ad116) ((rd_T64 l0_1 x26_2).body).length c111_2] 64 (0, 0)) (by (with_reducible repeat (first | refine bN ?_ _ | refine bD ?_ | refine bA ?_ _)); exact BK112.out) hb); clear hb hbox hg; have hnb35 := NB117_101.out; have hnc35 := NB101_117.out; have hnb36 := NB117_112.out; have hnc36 := NB112_117.out; have hcz37_0 : w34.cell? ⟨gb117, 0, none⟩ = some (.int .i64 0) := (blk_cell BK117.out 0).trans rfl; have hcz37_1 : w34.cell? ⟨gb117, 1, none⟩ = some (.string (⟨#[]⟩ : ByteArray)) := (blk_cell BK117.out 1).trans rfl; have hcz37_2 : w34.cell? ⟨gb117, 2, none⟩ = some (.slice none 0 0) := (blk_cell BK117.out 2).trans rfl; have hcz37_3 : w34.cell? ⟨gb117, 3, none⟩ = some (.string (⟨#[]⟩ : ByteArray)) := (blk_cell BK117.out 3).trans rfl; have hcz37_4 : w34.cell? ⟨gb117, 4, none⟩ = some (.bool false) := (blk_cell BK117.out 4).trans rfl; have hcz37_5 : w34.cell? ⟨gb117, 5, none⟩ = some (.string (⟨#[]⟩ : ByteArray)) := (blk_cell BK117.out 5).trans rfl; have hcz37_6 : w34.cell? ⟨gb117, 6, none⟩ = some (.bool false) := (blk_cell BK117.out 6).trans rfl; have hcz37_7 : w34.cell? ⟨gb117, 7, none⟩ = some (.string (⟨#[]⟩ : ByteArray)) := (blk_cell BK117.out 7).trans rfl; have hcz37_8 : w34.cell? ⟨gb117, 8, none⟩ = some (.int .i64 0) := (blk_cell BK117.out 8).trans rfl; have hcz37_9 : w34.cell? ⟨gb117, 9, none⟩ = some (.bool false) := (blk_cell BK117.out 9).trans rfl; have hcz37_10 : w34.cell? ⟨gb117, 10, none⟩ = some (.string (⟨#[]⟩ : ByteArray)) := (blk_cell BK117.out 10).trans rfl; have hcz37_11 : w34.cell? ⟨gb117, 11, none⟩ = some (.bool false) := (blk_cell BK117.out 11).trans rfl; have hcz37_12 : w34.cell? ⟨gb117, 12, none⟩ = some (.string (⟨#[]⟩ : ByteArray)) := (blk_cell BK117.out 12).trans rfl; have hcz37_13 : w34.cell? ⟨gb117, 13, none⟩ = some (.int .i64 0) := (blk_cell BK117.out 13).trans rfl; have hfz37_0 := blk_frozen BK117.out 0; have hfz37_1 := blk_frozen BK117.out 1; have hfz37_2 := blk_frozen BK117.out 2; have hfz37_3 := blk_frozen BK117.out 3; have hfz37_4 := blk_frozen BK117.out 4; have hfz37_5 := blk_frozen BK117.out 5; have hfz37_6 := blk_frozen BK117.out 6; have hfz37_7 := blk_frozen BK117.out 7; have hfz37_8 := blk_frozen BK117.out 8; have hfz37_9 := blk_frozen BK117.out 9; have hfz37_10 := blk_frozen BK117.out 10; have hfz37_11 := blk_frozen BK117.out 11; have hfz37_12 := blk_frozen BK117.out 12; have hfz37_13 := blk_frozen BK117.out 13) | ((with_reducible refine gate_builtin (b := .append) (xs := #[.tmp 51, .tmp 55]) rfl ?_); at_builtin; refine Kd.R_append Kd.string (w0 := w) w.heap.size rfl (.tmp 51) (.tmp 55) 52 9 (.string ⟨#[]⟩) 16 rfl Try.underlying52 info9 rfl (by decide) (by omega) u3 x3_3 ((rd_T71 ((rd_T64 l0_1 x26_2).body) x39_3).atom.pred) [.string ((rd_T71 ((rd_T64 l0_1 x26_2).body) x39_3).atom.pred)] (fun _ => True) (fun _ => False) rfl (by first | (go_simp; done) | (go_simp; rfl)) ?aP (fun _ hk => hk.elim) ?aF ?aO ?aB ?aS ?aL ?_; (case aP => exact rfl); (case aB => exact (by repeat (first | (with_reducible first | exact HB.out | apply lA | apply lN | apply lD | refine lS ?_ GE101.out | refine lS ?_ GE112.out | refine lS ?_ GE117.out) | exact HB.out))); (case aF => exact (fun _ _ => trivial)); (case aO => exact (by (with_reducible repeat (first | apply Ra | apply Rn | apply Rd)); exact Kd.R_mono (Kd.R_far (p := ⟨gb117, 13, none⟩) (Kd.R_far (p := ⟨gb117, 12, none⟩) (Kd.R_far (p := ⟨gb117, 11, none⟩) (Kd.R_far (p := ⟨gb117, 10, none⟩) (Kd.R_far (p := ⟨gb117, 9, none⟩) (Kd.R_far (p := ⟨gb117, 8, none⟩) (Kd.R_far (p := ⟨gb117, 7, none⟩) (Kd.R_far (p := ⟨gb117, 6, none⟩) (Kd.R_far (p := ⟨gb117, 5, none⟩) (Kd.R_far (p := ⟨gb117, 4, none⟩) (Kd.R_far (p := ⟨gb117, 3, none⟩) (Kd.R_far (p := ⟨gb117, 2, none⟩) (Kd.R_far (p := ⟨gb117, 1, none⟩) (Kd.R_far (p := ⟨gb117, 0, none⟩) (Kd.R_types HO_3.out BK117.out (by decide)) (fun _ hk => hk.2) _) (fun _ hk => hk.2) _) (fun _ hk => hk.2) _) (fun _ hk => hk.2) _) (fun _ hk => hk.2) _) (fun _ hk => hk.2) _) (fun _ hk => hk.2) _) (fun _ hk => hk.2) _) (fun _ hk => hk.2) _) (fun _ hk => hk.2) _) (fun _ hk => hk.2) _) (fun _ hk => hk.2) _) (fun _ hk => hk.2) _) (fun _ hk => hk.2) _) (fun _ hk => trivial))); (case aS => exact (below_size (by repeat (first | (with_reducible first | exact HB.out | apply lA | apply lN | apply lD | refine lS ?_ GE101.out | refine lS ?_ GE112.out | refine lS ?_ GE117.out) | exact HB.out)))); (case aL => have := LMc33.out; omega); intro v122 w38 ho hb hg hat; rw [← Ny121.out] at ho; replace BK101 := am (blk_grown (g := gb101) (o := .cells #[.slice A0_0 l0_0.length c0_0, .slice (some ad111) l0_1.length c0_1] 50 (0, 0)) (by repeat (first | (with_reducible first | exact BK101.out | refine bN ?_ _ | refine bD ?_ | refine bA ?_ _) | refine blk_far ?_ NB101_117.out _ | exact BK101.out)) hg (Kd.R_ne HO_3.out BK101.out (by decide))); replace BK112 := am (blk_grown (g := gb112) (o := .cells #[.string ((rd_T64 l0_1 x26_2).head.pred), .slice A111_1 ((rd_T64 l0_1 x26_2).head.args).length c111_1, .slice (some ad116) ((rd_T64 l0_1 x26_2).body).length c111_2] 64 (0, 0)) (by repeat (first | (with_reducible first | exact BK112.out | refine bN ?_ _ | refine bD ?_ | refine bA ?_ _) | refine blk_far ?_ NB112_117.out _ | exact BK112.out)) hg (Kd.R_ne HO_3.out BK112.out (by decide))); replace BK117 := am (blk_grown (g := gb117) (o := .cells #[.int .i64 ((rd_T71 ((rd_T64 l0_1 x26_2).body) x39_3).kind), .string ((rd_T71 ((rd_T64 l0_1 x26_2).body) x39_3).atom.pred), .slice A116_2 ((rd_T71 ((rd_T64 l0_1 x26_2).body) x39_3).atom.args).length c116_2, .string ((rd_T71 ((rd_T64 l0_1 x26_2).body) x39_3).op), .bool ((rd_T71 ((rd_T64 l0_1 x26_2).body) x39_3).l.isVar), .string ((rd_T71 ((rd_T64 l0_1 x26_2).body) x39_3).l.name), .bool ((rd_T71 ((rd_T64 l0_1 x26_2).body) x39_3).l.val.isSym), .string ((rd_T71 ((rd_T64 l0_1 x26_2).body) x39_3).l.val.sym), .int .i64 ((rd_T71 ((rd_T64 l0_1 x26_2).body) x39_3).l.val.n), .bool ((rd_T71 ((rd_T64 l0_1 x26_2).body) x39_3).r.isVar), .string ((rd_T71 ((rd_T64 l0_1 x26_2).body) x39_3).r.name), .bool ((rd_T71 ((rd_T64 l0_1 x26_2).body) x39_3).r.val.isSym), .string ((rd_T71 ((rd_T64 l0_1 x26_2).body) x39_3).r.val.sym), .int .i64 ((rd_T71 ((rd_T64 l0_1 x26_2).body) x39_3).r.val.n)] 71 (0, 0)) (by (with_reducible repeat (first | refine bN ?_ _ | refine bD ?_ | refine bA ?_ _)); refine blk_put (cs := #[.int .i64 ((rd_T71 ((rd_T64 l0_1 x26_2).body) x39_3).kind), .string ((rd_T71 ((rd_T64 l0_1 x26_2).body) x39_3).atom.pred), .slice A116_2 ((rd_T71 ((rd_T64 l0_1 x26_2).body) x39_3).atom.args).length c116_2, .string ((rd_T71 ((rd_T64 l0_1 x26_2).body) x39_3).op), .bool ((rd_T71 ((rd_T64 l0_1 x26_2).body) x39_3).l.isVar), .string ((rd_T71 ((rd_T64 l0_1 x26_2).body) x39_3).l.name), .bool ((rd_T71 ((rd_T64 l0_1 x26_2).body) x39_3).l.val.isSym), .string ((rd_T71 ((rd_T64 l0_1 x26_2).body) x39_3).l.val.sym), .int .i64 ((rd_T71 ((rd_T64 l0_1 x26_2).body) x39_3).l.val.n), .bool ((rd_T71 ((rd_T64 l0_1 x26_2).body) x39_3).r.isVar), .string ((rd_T71 ((rd_T64 l0_1 x26_2).body) x39_3).r.name), .bool ((rd_T71 ((rd_T64 l0_1 x26_2).body) x39_3).r.val.isSym), .string ((rd_T71 ((rd_T64 l0_1 x26_2).body) x39_3).r.val.sym), .int .i64 0]) ?_ 13 _ rfl; (with_reducible repeat (first | refine bN ?_ _ | refine bD ?_ | refine bA ?_ _)); refine blk_put (cs := #[.int .i64 ((rd_T71 ((rd_T64 l0_1 x26_2).body) x39_3).kind), .string ((rd_T71 ((rd_T64 l0_1 x26_2).body) x39_3).atom.pred), .slice A116_2 ((rd_T71 ((rd_T64 l0_1 x26_2).body) x39_3).atom.args).length c116_2, .string ((rd_T71 ((rd_T64 l0_1 x26_2).body) x39_3).op), .bool ((rd_T71 ((rd_T64 l0_1 x26_2).body) x39_3).l.isVar), .string ((rd_T71 ((rd_T64 l0_1 x26_2).body) x39_3).l.name), .bool ((rd_T71 ((rd_T64 l0_1 x26_2).body) x39_3).l.val.isSym), .string ((rd_T71 ((rd_T64 l0_1 x26_2).body) x39_3).l.val.sym), .int .i64 ((rd_T71 ((rd_T64 l0_1 x26_2).body) x39_3).l.val.n), .bool ((rd_T71 ((rd_T64 l0_1 x26_2).body) x39_3).r.isVar), .string ((rd_T71 ((rd_T64 l0_1 x26_2).body) x39_3).r.name), .bool ((rd_T71 ((rd_T64 l0_1 x26_2).body) x39_3).r.val.isSym), .string (⟨#[]⟩ : ByteArray), .int .i64 0]) ?_ 12 _ rfl; (with_reducible repeat (first | refine bN ?_ _ | refine bD ?_ | refine bA ?_ _)); refine blk_put (cs := #[.int .i64 ((rd_T71 ((rd_T64 l0_1 x26_2).body) x39_3).kind), .string ((rd_T71 ((rd_T64 l0_1 x26_2).body) x39_3).atom.pred), .slice A116_2 ((rd_T71 ((rd_T64 l0_1 x26_2).body) x39_3).atom.args).length c116_2, .string ((rd_T71 ((rd_T64 l0_1 x26_2).body) x39_3).op), .bool ((rd_T71 ((rd_T64 l0_1 x26_2).body) x39_3).l.isVar), .string ((rd_T71 ((rd_T64 l0_1 x26_2).body) x39_3).l.name), .bool ((rd_T71 ((rd_T64 l0_1 x26_2).body) x39_3).l.val.isSym), .string ((rd_T71 ((rd_T64 l0_1 x26_2).body) x39_3).l.val.sym), .int .i64 ((rd_T71 ((rd_T64 l0_1 x26_2).body) x39_3).l.val.n), .bool ((rd_T71 ((rd_T64 l0_1 x26_2).body) x39_3).r.isVar), .string ((rd_T71 ((rd_T64 l0_1 x26_2).body) x39_3).r.name), .bool false, .string (⟨#[]⟩ : ByteArray), .int .i64 0]) ?_ 11 _ rfl; (with_reducible repeat (first | refine bN ?_ _ | refine bD ?_ | refine bA ?_ _)); refine blk_put (cs := #[.int .i64 ((rd_T71 ((rd_T64 l0_1 x26_2).body) x39_3).kind), .string ((rd_T71 ((rd_T64 l0_1 x26_2).body) x39_3).atom.pred), .slice A116_2 ((rd_T71 ((rd_T64 l0_1 x26_2).body) x39_3).atom.args).length c116_2, .string ((rd_T71 ((rd_T64 l0_1 x26_2).body) x39_3).op), .bool ((rd_T71 ((rd_T64 l0_1 x26_2).body) x39_3).l.isVar), .string ((rd_T71 ((rd_T64 l0_1 x26_2).body) x39_3).l.name), .bool ((rd_T71 ((rd_T64 l0_1 x26_2).body) x39_3).l.val.isSym), .string ((rd_T71 ((rd_T64 l0_1 x26_2).body) x39_3).l.val.sym), .int .i64 ((rd_T71 ((rd_T64 l0_1 x26_2).body) x39_3).l.val.n), .bool ((rd_T71 ((rd_T64 l0_1 x26_2).body) x39_3).r.isVar), .string (⟨#[]⟩ : ByteArray), .bool false, .string (⟨#[]⟩ : ByteArray), .int .i64 0]) ?_ 10 _ rfl; (with_reducible repeat (first | refine bN ?_ _ | refine bD ?_ | refine bA ?_ _)); refine blk_put (cs := #[.int .i64 ((rd_T71 ((rd_T64 l0_1 x26_2).body) x39_3).kind), .string ((rd_T71 ((rd_T64 l0_1 x26_2).body) x39_3).atom.pred), .slice A116_2 ((rd_T71 ((rd_T64 l0_1 x26_2).body) x39_3).atom.args).length c116_2, .string ((rd_T71 ((rd_T64 l0_1 x26_2).body) x39_3).op), .bool ((rd_T71 ((rd_T64 l0_1 x26_2).body) x39_3).l.isVar), .string ((rd_T71 ((rd_T64 l0_1 x26_2).body) x39_3).l.name), .bool ((rd_T71 ((rd_T64 l0_1 x26_2).body) x39_3).l.val.isSym), .string ((rd_T71 ((rd_T64 l0_1 x26_2).body) x39_3).l.val.sym), .int .i64 ((rd_T71 ((rd_T64 l0_1 x26_2).body) x39_3).l.val.n), .bool false, .string (⟨#[]⟩ : ByteArray), .bool false, .string (⟨#[]⟩ : ByteArray), .int .i64 0]) ?_ 9 _ rfl; (with_reducible repeat (first | refine bN ?_ _ | refine bD ?_ | refine bA ?_ _)); refine blk_put (cs := #[.int .i64 ((rd_T71 ((rd_T64 l0_1 x26_2).body) x39_3).kind), .string ((rd_T71 ((rd_T64 l0_1 x26_2).body) x39_3).atom.pred), .slice A116_2 ((rd_T71 ((rd_T64 l0_1 x26_2).body) x39_3).atom.args).length c116_2, .string ((rd_T71 ((rd_T64 l0_1 x26_2).body) x39_3).op), .bool ((rd_T71 ((rd_T64 l0_1 x26_2).body) x39_3).l.isVar), .string ((rd_T71 ((rd_T64 l0_1 x26_2).body) x39_3).l.name), .bool ((rd_T71 ((rd_T64 l0_1 x26_2).body) x39_3).l.val.isSym), .string ((rd_T71 ((rd_T64 l0_1 x26_2).body) x39_3).l.val.sym), .int .i64 0, .bool false, .string (⟨#[]⟩ : ByteArray), .bool false, .string (⟨#[]⟩ : ByteArray), .int .i64 0]) ?_ 8 _ rfl; (with_reducible repeat (first | refine bN ?_ _ | refine bD ?_ | refine bA ?_ _)); refine blk_put (cs := #[.int .i64 ((rd_T71 ((rd_T64 l0_1 x26_2).body) x39_3).kind), .string ((rd_T71 ((rd_T64 l0_1 x26_2).body) x39_3).atom.pred), .slice A116_2 ((rd_T71 ((rd_T64 l0_1 x26_2).body) x39_3).atom.args).length c116_2, .string ((rd_T71 ((rd_T64 l0_1 x26_2).body) x39_3).op), .bool ((rd_T71 ((rd_T64 l0_1 x26_2).body) x39_3).l.isVar), .string ((rd_T71 ((rd_T64 l0_1 x26_2).body) x39_3).l.name), .bool ((rd_T71 ((rd_T64 l0_1 x26_2).body) x39_3).l.val.isSym), .string (⟨#[]⟩ : ByteArray), .int .i64 0, .bool false, .string (⟨#[]⟩ : ByteArray), .bool false, .string (⟨#[]⟩ : ByteArray), .int .i64 0]) ?_ 7 _ rfl; (with_reducible repeat (first | refine bN ?_ _ | refine bD ?_ | refine bA ?_ _)); refine blk_put (cs := #[.int .i64 ((rd_T71 ((rd_T64 l0_1 x26_2).body) x39_3).kind), .string ((rd_T71 ((rd_T64 l0_1 x26_2).body) x39_3).atom.pred), .slice A116_2 ((rd_T71 ((rd_T64 l0_1 x26_2).body) x39_3).atom.args).length c116_2, .string ((rd_T71 ((rd_T64 l0_1 x26_2).body) x39_3).op), .bool ((rd_T71 ((rd_T64 l0_1 x26_2).body) x39_3).l.isVar), .string ((rd_T71 ((rd_T64 l0_1 x26_2).body) x39_3).l.name), .bool false, .string (⟨#[]⟩ : ByteArray), .int .i64 0, .bool false, .string (⟨#[]⟩ : ByteArray), .bool false, .string (⟨#[]⟩ : ByteArray), .int .i64 0]) ?_ 6 _ rfl; (with_reducible repeat (first | refine bN ?_ _ | refine bD ?_ | refine bA ?_ _)); refine blk_put (cs := #[.int .i64 ((rd_T71 ((rd_T64 l0_1 x26_2).body) x39_3).kind), .string ((rd_T71 ((rd_T64 l0_1 x26_2).body) x39_3).atom.pred), .slice A116_2 ((rd_T71 ((rd_T64 l0_1 x26_2).body) x39_3).atom.args).length c116_2, .string ((rd_T71 ((rd_T64 l0_1 x26_2).body) x39_3).op), .bool ((rd_T71 ((rd_T64 l0_1 x26_2).body) x39_3).l.isVar), .string (⟨#[]⟩ : ByteArray), .bool false, .string (⟨#[]⟩ : ByteArray), .int .i64 0, .bool false, .string (⟨#[]⟩ : ByteArray), .bool false, .string (⟨#[]⟩ : ByteArray), .int .i64 0]) ?_ 5 _ rfl; (with_reducible repeat (first | refine bN ?_ _ | refine bD ?_ | refine bA ?_ _)); refine blk_put (cs := #[.int .i64 ((rd_T71 ((rd_T64 l0_1 x26_2).body) x39_3).kind), .string ((rd_T71 ((rd_T64 l0_1 x26_2).body) x39_3).atom.pred), .slice A116_2 ((rd_T71 ((rd_T64 l0_1 x26_2).body) x39_3).atom.args).length c116_2, .string ((rd_T71 ((rd_T64 l0_1 x26_2).body) x39_3).op), .bool false, .string (⟨#[]⟩ : ByteArray), .bool false, .string (⟨#[]⟩ : ByteArray), .int .i64 0, .bool false, .string (⟨#[]⟩ : ByteArray), .bool false, .string (⟨#[]⟩ : ByteArray), .int .i64 0]) ?_ 4 _ rfl; (with_reducible repeat (first | refine bN ?_ _ | refine bD ?_ | refine bA ?_ _)); refine blk_put (cs := #[.int .i64 ((rd_T71 ((rd_T64 l0_1 x26_2).body) x39_3).kind), .string ((rd_T71 ((rd_T64 l0_1 x26_2).body) x39_3).atom.pred), .slice A116_2 ((rd_T71 ((rd_T64 l0_1 x26_2).body) x39_3).atom.args).length c116_2, .string (⟨#[]⟩ : ByteArray), .bool false, .string (⟨#[]⟩ : ByteArray), .bool false, .string (⟨#[]⟩ : ByteArray), .int .i64 0, .bool false, .string (⟨#[]⟩ : ByteArray), .bool false, .string (⟨#[]⟩ : ByteArray), .int .i64 0]) ?_ 3 _ rfl; (with_reducible repeat (first | refine bN ?_ _ | refine bD ?_ | refine bA ?_ _)); refine blk_put (cs := #[.int .i64 ((rd_T71 ((rd_T64 l0_1 x26_2).body) x39_3).kind), .string ((rd_T71 ((rd_T64 l0_1 x26_2).body) x39_3).atom.pred), .slice none 0 0, .string (⟨#[]⟩ : ByteArray), .bool false, .string (⟨#[]⟩ : ByteArray), .bool false, .string (⟨#[]⟩ : ByteArray), .int .i64 0, .bool false, .string (⟨#[]⟩ : ByteArray), .bool false, .string (⟨#[]⟩ : ByteArray), .int .i64 0]) ?_ 2 _ rfl; (with_reducible repeat (first | refine bN ?_ _ | refine bD ?_ | refine bA ?_ _)); refine blk_put (cs := #[.int .i64 ((rd_T71 ((rd_T64 l0_1 x26_2).body) x39_3).kind), .string (⟨#[]⟩ : ByteArray), .slice none 0 0, .string (⟨#[]⟩ : ByteArray), .bool false, .string (⟨#[]⟩ : ByteArray), .bool false, .string (⟨#[]⟩ : ByteArray), .int .i64 0, .bool false, .string (⟨#[]⟩ : ByteArray), .bool false, .string (⟨#[]⟩ : ByteArray), .int .i64 0]) ?_ 1 _ rfl; (with_reducible repeat (first | refine bN ?_ _ | refine bD ?_ | refine bA ?_ _)); refine blk_put (cs := #[.int .i64 0, .string (⟨#[]⟩ : ByteArray), .slice none 0 0, .string (⟨#[]⟩ : ByteArray), .bool false, .string (⟨#[]⟩ : ByteArray), .bool false, .string (⟨#[]⟩ : ByteArray), .int .i64 0, .bool false, .string (⟨#[]⟩ : ByteArray), .bool false, .string (⟨#[]⟩ : ByteArray), .int .i64 0]) ?_ 0 _ rfl; (with_reducible repeat (first | refine bN ?_ _ | refine bD ?_ | refine bA ?_ _)); exact BK117.out) hg (Kd.R_ne HO_3.out BK117.out (by decide))); replace HB := am (hb); have HO123 := am (ho); clear HO_3; clear ho hb hg hat))
                  go_roundg k3
                  case measure => have := HK1.out; have := HK2.out; have := HK3.out; omega
                  case rel => exact ⟨(y121), (wrap64 (x39_3 + 1)), (by first | rfl | (simp; done) | (simp [*]; done)), H', ⟨by have := HK1.out; have := HK2.out; have := HK3.out; omega⟩, ⟨by (with_reducible repeat (first | apply Ra | apply Rn | apply Rd)); exact HO123.out⟩, ⟨by (with_reducible repeat (first | refine bN ?_ _ | refine bD ?_ | refine bA ?_ _)); exact BK101.out⟩, ⟨by (with_reducible repeat (first | refine bN ?_ _ | refine bD ?_ | refine bA ?_ _)); exact BK112.out⟩, ⟨by repeat (first | (with_reducible first | exact HB.out | apply lA | apply lN | apply lD | refine lS ?_ GE101.out | refine lS ?_ GE112.out | refine lS ?_ GE117.out) | exact HB.out)⟩⟩
                 ·rw [if_neg c33] at H
                  exact absurd H (by simp)
                ·rw [if_neg c32] at H
                 have c32b0 : (((rd_T71 ((rd_T64 l0_1 x26_2).body) x39_3).kind) == 2) = false := beq_eq_false_iff_ne.mpr c32
                 have c32b1 : (((rd_T71 ((rd_T64 l0_1 x26_2).body) x39_3).kind) != 2) = true := bne_iff_ne.mpr c32
                 have H' := am H
                 clear H
                 have p116 : 0 ≤ (x39_3 : Int) := of_decide_eq_true (by first | (with_reducible assumption) | assumption)
                 have q116 : x39_3 < (((rd_T64 l0_1 x26_2).body).length : Int) := of_decide_eq_true (by first | (with_reducible assumption) | assumption)
                 obtain ⟨ad116, A116_2, c116_2, e116, hx116_0, hx116_1, hx116_2, hx116_3, hx116_4, hx116_5, hx116_6, hx116_7, hx116_8, hx116_9, hx116_10, hx116_11, hx116_12, hx116_13, hl116_2, hi116_2⟩ := at_T71 HR111_2.out x39_3 p116 q116
                 cases e116
                 replace hx116_0 := (HB.out.cell (blt_ hx116_0)).trans hx116_0
                 replace hx116_1 := (HB.out.cell (blt_ hx116_1)).trans hx116_1
                 replace hx116_2 := (HB.out.cell (blt_ hx116_2)).trans hx116_2
                 replace hx116_3 := (HB.out.cell (blt_ hx116_3)).trans hx116_3
                 replace hx116_4 := (HB.out.cell (blt_ hx116_4)).trans hx116_4
                 replace hx116_5 := (HB.out.cell (blt_ hx116_5)).trans hx116_5
                 replace hx116_6 := (HB.out.cell (blt_ hx116_6)).trans hx116_6
                 replace hx116_7 := (HB.out.cell (blt_ hx116_7)).trans hx116_7
                 replace hx116_8 := (HB.out.cell (blt_ hx116_8)).trans hx116_8
                 replace hx116_9 := (HB.out.cell (blt_ hx116_9)).trans hx116_9
                 replace hx116_10 := (HB.out.cell (blt_ hx116_10)).trans hx116_10
                 replace hx116_11 := (HB.out.cell (blt_ hx116_11)).trans hx116_11
                 replace hx116_12 := (HB.out.cell (blt_ hx116_12)).trans hx116_12
                 replace hx116_13 := (HB.out.cell (blt_ hx116_13)).trans hx116_13
                 have HR116_2 := am hi116_2
                 have HC116_2 := am hl116_2
                 clear hi116_2 hl116_2
                 replace p116 := eq_true p116
                 replace q116 := eq_true q116
                 go_wp2_with (first | ((with_reducible refine gate_dst (N := 9) rfl ?_); refine box_event ?hg (N := 9) ?hd (cs := #[.int .i64 0, .string (⟨#[]⟩ : ByteArray), .slice none 0 0, .string (⟨#[]⟩ : ByteArray), .bool false, .string (⟨#[]⟩ : ByteArray), .bool false, .string (⟨#[]⟩ : ByteArray), .int .i64 0, .bool false, .string (⟨#[]⟩ : ByteArray), .bool false, .string (⟨#[]⟩ : ByteArray), .int .i64 0]) (t := 71) ?hr ?_; (case hd => rfl); (case hg => rfl); (case hr => first | (go_simp; done) | (go_simp; rfl)); intro gb117 hg w39 hbox hb; replace HO_3 := am (Kd.R_below (by (with_reducible repeat (first | apply Ra | apply Rn | apply Rd)); exact HO_3.out) hb); have BK117 := am (hbox); have GW117 := am ((by rw [hg]; exact (below_size (by repeat (first | (with_reducible first | exact HB.out | apply lA | apply lN | apply lD | refine lS ?_ GE101.out | refine lS ?_ GE112.out) | exact HB.out))) : w.heap.size ≤ gb117)); have GE117 := am ((by rw [hg]; exact (below_size (by repeat (first | (with_reducible first | exact HB.out | apply lA | apply lN | apply lD | refine lS ?_ GE101.out | refine lS ?_ GE112.out) | exact HB.out))) : w.heap.size ≤ gb117)); replace HB := am (below_step (by repeat (first | (with_reducible first | exact HB.out | apply lA | apply lN | apply lD | refine lS ?_ GE101.out | refine lS ?_ GE112.out) | exact HB.out)) hb); have NB101_117 := am ((by rw [hg]; exact Nat.ne_of_lt (blk_lt (g := gb101) (o := .cells #[.slice A0_0 l0_0.length c0_0, .slice (some ad111) l0_1.length c0_1] 50 (0, 0)) (by (with_reducible repeat (first | refine bN ?_ _ | refine bD ?_ | refine bA ?_ _)); exact BK101.out)) : gb101 ≠ gb117)); have NB117_101 := am ((by rw [hg]; exact Nat.ne_of_gt (blk_lt (g := gb101) (o := .cells #[.slice A0_0 l0_0.length c0_0, .slice (some ad111) l0_1.length c0_1] 50 (0, 0)) (by (with_reducible repeat (first | refine bN ?_ _ | refine bD ?_ | refine bA ?_ _)); exact BK101.out)) : gb117 ≠ gb101)); replace BK101 := am (blk_below (g := gb101) (o := .cells #[.slice A0_0 l0_0.length c0_0, .slice (some ad111) l0_1.length c0_1] 50 (0, 0)) (by (with_reducible repeat (first | refine bN ?_ _ | refine bD ?_ | refine bA ?_ _)); exact BK101.out) hb); have NB112_117 := am ((by rw [hg]; exact Nat.ne_of_lt (blk_lt (g := gb112) (o := .cells #[.string ((rd_T64 l0_1 x26_2).head.pred), .slice A111_1 ((rd_T64 l0_1 x26_2).head.args).length c111_1, .slice (some ad116) ((rd_T64 l0_1 x26_2).body).length c111_2] 64 (0, 0)) (by (with_reducible repeat (first | refine bN ?_ _ | refine bD ?_ | refine bA ?_ _)); exact BK112.out)) : gb112 ≠ gb117)); have NB117_112 := am ((by rw [hg]; exact Nat.ne_of_gt (blk_lt (g := gb112) (o := .cells #[.string ((rd_T64 l0_1 x26_2).head.pred), .slice A111_1 ((rd_T64 l0_1 x26_2).head.args).length c111_1, .slice (some ad116) ((rd_T64 l0_1 x26_2).body).length c111_2] 64 (0, 0)) (by (with_reducible repeat (first | refine bN ?_ _ | refine bD ?_ | refine bA ?_ _)); exact BK112.out)) : gb117 ≠ gb112)); replace BK112 := am (blk_below (g := gb112) (o := .cells #[.string ((rd_T64 l0_1 x26_2).head.pred), .slice A111_1 ((rd_T64 l0_1 x26_2).head.args).length c111_1, .slice (some ad116) ((rd_T64 l0_1 x26_2).body).length c111_2] 64 (0, 0)) (by (with_reducible repeat (first | refine bN ?_ _ | refine bD ?_ | refine bA ?_ _)); exact BK112.out) hb); clear hb hbox hg; have hnb40 := NB117_101.out; have hnc40 := NB101_117.out; have hnb41 := NB117_112.out; have hnc41 := NB112_117.out; have hcz42_0 : w39.cell? ⟨gb117, 0, none⟩ = some (.int .i64 0) := (blk_cell BK117.out 0).trans rfl; have hcz42_1 : w39.cell? ⟨gb117, 1, none⟩ = some (.string (⟨#[]⟩ : ByteArray)) := (blk_cell BK117.out 1).trans rfl; have hcz42_2 : w39.cell? ⟨gb117, 2, none⟩ = some (.slice none 0 0) := (blk_cell BK117.out 2).trans rfl; have hcz42_3 : w39.cell? ⟨gb117, 3, none⟩ = some (.string (⟨#[]⟩ : ByteArray)) := (blk_cell BK117.out 3).trans rfl; have hcz42_4 : w39.cell? ⟨gb117, 4, none⟩ = some (.bool false) := (blk_cell BK117.out 4).trans rfl; have hcz42_5 : w39.cell? ⟨gb117, 5, none⟩ = some (.string (⟨#[]⟩ : ByteArray)) := (blk_cell BK117.out 5).trans rfl; have hcz42_6 : w39.cell? ⟨gb117, 6, none⟩ = some (.bool false) := (blk_cell BK117.out 6).trans rfl; have hcz42_7 : w39.cell? ⟨gb117, 7, none⟩ = some (.string (⟨#[]⟩ : ByteArray)) := (blk_cell BK117.out 7).trans rfl; have hcz42_8 : w39.cell? ⟨gb117, 8, none⟩ = some (.int .i64 0) := (blk_cell BK117.out 8).trans rfl; have hcz42_9 : w39.cell? ⟨gb117, 9, none⟩ = some (.bool false) := (blk_cell BK117.out 9).trans rfl; have hcz42_10 : w39.cell? ⟨gb117, 10, none⟩ = some (.string (⟨#[]⟩ : ByteArray)) := (blk_cell BK117.out 10).trans rfl; have hcz42_11 : w39.cell? ⟨gb117, 11, none⟩ = some (.bool false) := (blk_cell BK117.out 11).trans rfl; have hcz42_12 : w39.cell? ⟨gb117, 12, none⟩ = some (.string (⟨#[]⟩ : ByteArray)) := (blk_cell BK117.out 12).trans rfl; have hcz42_13 : w39.cell? ⟨gb117, 13, none⟩ = some (.int .i64 0) := (blk_cell BK117.out 13).trans rfl; have hfz42_0 := blk_frozen BK117.out 0; have hfz42_1 := blk_frozen BK117.out 1; have hfz42_2 := blk_frozen BK117.out 2; have hfz42_3 := blk_frozen BK117.out 3; have hfz42_4 := blk_frozen BK117.out 4; have hfz42_5 := blk_frozen BK117.out 5; have hfz42_6 := blk_frozen BK117.out 6; have hfz42_7 := blk_frozen BK117.out 7; have hfz42_8 := blk_frozen BK117.out 8; have hfz42_9 := blk_frozen BK117.out 9; have hfz42_10 := blk_frozen BK117.out 10; have hfz42_11 := blk_frozen BK117.out 11; have hfz42_12 := blk_frozen BK117.out 12; have hfz42_13 := blk_frozen BK117.out 13))
                 go_roundg k3
                 case measure => have := HK1.out; have := HK2.out; have := HK3.out; omega
                 case rel => exact ⟨(x3_3), (wrap64 (x39_3 + 1)), (by first | rfl | (simp; done) | (simp [*]; done)), H', ⟨by have := HK1.out; have := HK2.out; have := HK3.out; omega⟩, ⟨by (with_reducible repeat (first | apply Ra | apply Rn | apply Rd)); exact Kd.R_mono (Kd.R_far (p := ⟨gb117, 13, none⟩) (Kd.R_far (p := ⟨gb117, 12, none⟩) (Kd.R_far (p := ⟨gb117, 11, none⟩) (Kd.R_far (p := ⟨gb117, 10, none⟩) (Kd.R_far (p := ⟨gb117, 9, none⟩) (Kd.R_far (p := ⟨gb117, 8, none⟩) (Kd.R_far (p := ⟨gb117, 7, none⟩) (Kd.R_far (p := ⟨gb117, 6, none⟩) (Kd.R_far (p := ⟨gb117, 5, none⟩) (Kd.R_far (p := ⟨gb117, 4, none⟩) (Kd.R_far (p := ⟨gb117, 3, none⟩) (Kd.R_far (p := ⟨gb117, 2, none⟩) (Kd.R_far (p := ⟨gb117, 1, none⟩) (Kd.R_far (p := ⟨gb117, 0, none⟩) (Kd.R_types HO_3.out BK117.out (by decide)) (fun _ hk => hk.2) _) (fun _ hk => hk.2) _) (fun _ hk => hk.2) _) (fun _ hk => hk.2) _) (fun _ hk => hk.2) _) (fun _ hk => hk.2) _) (fun _ hk => hk.2) _) (fun _ hk => hk.2) _) (fun _ hk => hk.2) _) (fun _ hk => hk.2) _) (fun _ hk => hk.2) _) (fun _ hk => hk.2) _) (fun _ hk => hk.2) _) (fun _ hk => hk.2) _) (fun _ hk => trivial)⟩, ⟨by repeat (first | (with_reducible first | exact BK101.out | refine bN ?_ _ | refine bD ?_ | refine bA ?_ _) | refine blk_far ?_ NB101_117.out _ | exact BK101.out)⟩, ⟨by repeat (first | (with_reducible first | exact BK112.out | refine bN ?_ _ | refine bD ?_ | refine bA ?_ _) | refine blk_far ?_ NB112_117.out _ | exact BK112.out)⟩, ⟨by repeat (first | (with_reducible first | exact HB.out | apply lA | apply lN | apply lD | refine lS ?_ GE101.out | refine lS ?_ GE112.out | refine lS ?_ GE117.out) | exact HB.out)⟩⟩
              ·rw [if_neg c24] at H
               exact absurd H (by simp)
             ·rw [if_neg c23] at H
              exact absurd H (by simp)
            ·rw [if_neg c22] at H
             have c22b0 : decide (x39_3 < (((rd_T64 l0_1 x26_2).body).length : Int)) = false := decide_eq_false c22
             clear c22
             have H' := am H
             clear H
             go_wp2
             go_roundg k3
             case measure => have := HK1.out; have := HK2.out; have := HK3.out; omega
             case rel => exact ⟨(x3_3), (wrap64 (x26_2 + 1)), (by first | rfl | (simp; done) | (simp [*]; done)), H', ⟨by have := HK1.out; have := HK2.out; have := HK3.out; omega⟩, ⟨by (with_reducible repeat (first | apply Ra | apply Rn | apply Rd)); exact HO_3.out⟩, ⟨by (with_reducible repeat (first | refine bN ?_ _ | refine bD ?_ | refine bA ?_ _)); exact BK101.out⟩, ⟨by repeat (first | (with_reducible first | exact HB.out | apply lA | apply lN | apply lD | refine lS ?_ GE101.out | refine lS ?_ GE112.out) | exact HB.out)⟩⟩
         ·rw [if_neg c16] at H
          exact absurd H (by simp)
        ·rw [if_neg c15] at H
         exact absurd H (by simp)
       ·rw [if_neg c14] at H
        exact absurd H (by simp)
      ·rw [if_neg c13] at H
       have c13b0 : decide (x26_2 < (l0_1.length : Int)) = false := decide_eq_false c13
       clear c13
       replace H := Option.bind_eq_some_iff.mp H
       obtain ⟨t107, A430, H⟩ := H
       replace H : ((slices_Compact_string_string.f t107).bind fun t108 => (some t108)) = some r := H
       have A43 := am A430
       clear A430
       replace H := Option.bind_eq_some_iff.mp H
       obtain ⟨t108, A440, H⟩ := H
       replace H : (some t108) = some r := H
       have A44 := am A440
       clear A440
       obtain rfl := Option.some.inj H
       obtain ⟨Ao45, co45, eo45⟩ := Kd.R_slice HO_3.out
       subst eo45
       go_wp2_with (first | ((with_reducible refine gate_callee (f := 55) rfl ?_); refine goesL_ (some 60) rfl rfl Try.func55 (by kernel_rfl) rfl #[.slice Ao45 x3_2.length co45] rfl (by (try simp only [List.map_toArray, List.map_cons, List.map_nil]); first | done | rfl | (simp only [List.length_drop, List.length_take]; rfl)) ?_; (with_reducible refine (slices_Sort_string_string.calls (fun k_ => some k_ = (.slice Ao45 x3_2.length co45 : Value).ownBlock) (.slice Ao45 x3_2.length co45) x3_2 t107 w _ ?side1 ?side2 A43.out).mono ?_); (case side1 => repeat (first | (with_reducible first | exact HB.out | apply lA | apply lN | apply lD | refine lS ?_ GE101.out) | exact HB.out)); (case side2 => exact Kd.R_tight rfl HO_3.out); rintro e w46 ⟨rfl, hy0, hb, hkp⟩; refine ⟨_, rfl, ?_⟩; replace BK101 := am (blk_kept (by (with_reducible repeat (first | refine bN ?_ _ | refine bD ?_ | refine bA ?_ _)); exact BK101.out) hkp (fun hs_ => (fun e_ => (Kd.R_ne HO_3.out BK101.out (by decide)) e_) hs_)); replace HO_3 := am (Kd.R_reok rfl hy0 (fun k_ e_ => HO_3.out.1 k_ e_)); replace HB := am (hb); (try clear hb); (try clear hkp); (try clear hy0)) | ((with_reducible refine gate_callee (f := 56) rfl ?_); refine goesL_ (some 62) rfl rfl Try.func56 (by kernel_rfl) rfl #[.slice Ao45 x3_2.length co45] rfl (by (try simp only [List.map_toArray, List.map_cons, List.map_nil]); first | done | rfl | (simp only [List.length_drop, List.length_take]; rfl)) ?_; (with_reducible refine (slices_Compact_string_string.calls (fun k_ => some k_ = (.slice Ao45 x3_2.length co45 : Value).ownBlock) (.slice Ao45 x3_2.length co45) t107 t108 w _ ?side1 ?side2 A44.out).mono ?_); (case side1 => repeat (first | (with_reducible first | exact HB.out | apply lA | apply lN | apply lD | refine lS ?_ GE101.out) | exact HB.out)); (case side2 => exact Kd.R_tight rfl HO_3.out); rintro e w47 ⟨v109, rfl, ho0, hb, hkp⟩; refine ⟨_, rfl, ?_⟩; replace BK101 := am (blk_kept (by (with_reducible repeat (first | refine bN ?_ _ | refine bD ?_ | refine bA ?_ _)); exact BK101.out) hkp (fun hs_ => (fun e_ => (Kd.R_ne HO_3.out BK101.out (by decide)) e_) hs_)); have HO110 := am (Kd.R_mono (ok' := fun k_ => True) ho0 (fun k_ hk_ => trivial)); replace HB := am (hb); clear HO_3; (try clear hb); (try clear hkp); (try clear ho0)))
       go_ret
       exact ⟨_, by first | rfl | (simp [errW_none, errW_some] <;> rfl) | (simp [*, errW_none, errW_some] <;> rfl), by (with_reducible repeat (first | apply Ra | apply Rn | apply Rd)); exact HO110.out, by repeat (first | (with_reducible first | exact HB.out | apply lA | apply lN | apply lD | refine lS ?_ GE101.out) | exact HB.out)⟩
def strata_ring.l0 : Nat → Int → List (IPair) → List (IPair) → Int → Int → Option (List Int)
 | 0, _, _, _, _, _ => none
 | k + 1, x0, x1, x18, x19, x20 => if x20 < x19 then (if 0 ≤ x20 then (if x20 < (x18.length : Int) then ((graph_Path.f k x0 x1 ((rd_T27 x18 x20).snd) ((rd_T27 x18 x20).fst)).bind fun t107 => (if 0 < (t107.length : Int) then ((some (([(rd_T27 x18 x20).fst] : List Int) : List Int)).bind fun y110 => (if y110.length + t107.length < 17592186044416 then (some (y110 ++ t107)) else (none))) else (strata_ring.l0 k x0 x1 x18 x19 (wrap64 (x20 + 1))))) else (none)) else (none)) else (some ([] : List Int))
def strata_ring.f (k : Nat) (a0 : Int) (l1 : List (IPair)) (l2 : List (IPair)) : Option (List Int) := (graph_Clean.f a0 l2).bind fun bt101 => (strata_ring.l0 k a0 l1 bt101.1 (bt101.1.length : Int) 0)
theorem strata_ring.mono_l : ∀ k, (∀ y0 y1 y2 y3 y4, LeO (strata_ring.l0 k y0 y1 y2 y3 y4) (strata_ring.l0 (k + 1) y0 y1 y2 y3 y4))
 | 0 => fun _ _ _ _ _ r h => by simp [strata_ring.l0] at h
 | k + 1 => by
  have ih0 := strata_ring.mono_l k
  ·intro y0 y1 y2 y3 y4
   unfold strata_ring.l0
   repeat' first
   | (with_reducible exact ih0 _ _ _ _ _)
   | (with_reducible exact graph_Path.mono _ _ _ _ _)
   | (with_reducible exact LeO.refl _)
   | (with_reducible exact LeO.none _)
   | (with_reducible refine LeO.ite ?_ ?_)
   | (with_reducible refine LeO.bind ?_ (fun _ => ?_))
   | exact ih0 _ _ _ _ _
   | exact graph_Path.mono _ _ _ _ _
   | exact LeO.none _
   | refine LeO.ite ?_ ?_
   | refine LeO.bind ?_ (fun _ => ?_)
theorem strata_ring.mono : ∀ a0 a1 a2 k, LeO (strata_ring.f k a0 a1 a2) (strata_ring.f (k + 1) a0 a1 a2) := by
 intro a0 a1 a2 k
 have ih0 := strata_ring.mono_l k
 unfold strata_ring.f
 repeat' first
   | (with_reducible exact ih0 _ _ _ _ _)
   | (with_reducible exact graph_Path.mono _ _ _ _ _)
   | (with_reducible exact LeO.refl _)
   | (with_reducible exact LeO.none _)
   | (with_reducible refine LeO.ite ?_ ?_)
   | (with_reducible refine LeO.bind ?_ (fun _ => ?_))
   | exact ih0 _ _ _ _ _
   | exact graph_Path.mono _ _ _ _ _
   | exact LeO.none _
   | refine LeO.ite ?_ ?_
   | refine LeO.bind ?_ (fun _ => ?_)
set_option maxHeartbeats 8000000 in
set_option maxRecDepth 100000 in
theorem strata_ring.calls (k : Nat) (a0 : Int) (A1 : Option Addr) (c1 : Nat) (l1 : List (IPair)) (A2 : Option Addr) (c2 : Nat) (l2 : List (IPair)) (r : List Int) (w : World) (hr1 : Kd.C k27 w A1 l1.length l1) (hc1 : l1.length ≤ c1) (hr2 : Kd.C k27 w A2 l2.length l2) (hc2 : l2.length ≤ c2) (h : strata_ring.f k a0 l1 l2 = some r) :
  Calls Try.prog 53 #[.int .i64 a0, .slice A1 l1.length c1, .slice A2 l2.length c2] w fun e w' => ∃ v0_ : Value, e = .returned (v0_) ∧ Kd.R (Kd.int .i64) 3 w' w.heap.size (fun _ => True) v0_ r ∧ Below w.heap.size w w' ∧ (r = [] → v0_ = .slice none 0 0) := by
 have hu27 := Try.underlying27
 have nq_ : ∀ (W : World) (a : Option Addr) (l c : Nat), (binOp .neq 35 (.slice a l c) (.slice none 0 0)).run Try.prog W = .ok (.bool (!a.isNone)) W := fun W a l c => run_neq_slice_nil W 35 _ a l c Try.underlying35
 have HR1 := Aside0.mk hr1
 have HC1 := Aside0.mk hc1
 clear hr1 hc1
 have HR2 := Aside0.mk hr2
 have HC2 := Aside0.mk hc2
 clear hr2 hc2
 have HB := Aside0.mk (Below.refl w.heap.size w)
 have H : ((graph_Clean.f a0 l2).bind fun bt101 => (strata_ring.l0 k a0 l1 bt101.1 (bt101.1.length : Int) 0)) = some r := h
 clear h
 replace H := Option.bind_eq_some_iff.mp H
 obtain ⟨⟨t101, t102⟩, A40, H⟩ := H
 replace H : (strata_ring.l0 k a0 l1 t101 (t101.length : Int) 0) = some r := H
 have A4 := Aside0.mk A40
 clear A40
 have H' := Aside0.mk H
 clear H
 go_enter Try.func53, Try.ntmps53
 go_wp2_with (first | ((with_reducible refine gate_callee (f := 16) rfl ?_); refine goesL_ (some 15) rfl rfl Try.func16 (by kernel_rfl) rfl #[.int .i64 a0, .slice A2 l2.length c2] rfl (by (try simp only [List.map_toArray, List.map_cons, List.map_nil]); first | done | rfl | (simp only [List.length_drop, List.length_take]; rfl)) ?_; (with_reducible refine (graph_Clean.calls a0 _ _ l2 t101 t102 _ ?side1 ?side2 A4.out).mono ?_); (case side1 => repeat (first | exact HR2.out | (with_reducible refine Kd.C_alloc ?_ _) | (with_reducible refine Kd.C_drewN ?_ _) | (with_reducible refine Kd.C_drew ?_))); (case side2 => exact HC2.out); rintro e w5 ⟨v103, rfl, ho0, hb⟩; refine ⟨_, rfl, ?_⟩; have n0_ := Aside0.mk (Kd.R_lower ho0 (below_size (by repeat (first | (with_reducible first | exact HB.out | apply below_alloc | apply pw_below_drewN | apply below_drew1) | exact HB.out)))); have n1_ := Aside0.mk (below_step (by repeat (first | (with_reducible first | exact HB.out | apply below_alloc | apply pw_below_drewN | apply below_drew1) | exact HB.out)) hb); clear HB; have HO104 := n0_; have HB := n1_; clear n0_ n1_; (try clear hb); (try clear hb2); (try clear hk); (try clear hi); (try clear ho0); obtain ⟨Ao6, co6, eo6⟩ := Kd.R_slice HO104.out; subst eo6))
 go_loopg [20] k (fun kq v20 w' => ∃ (x20_1 : Int), v20 = .int .i64 x20_1 ∧ Aside0 (strata_ring.l0 kq a0 l1 t101 (t101.length : Int) x20_1 = some r) ∧ Aside0 (kq ≤ k) ∧ Aside0 (Kd.R k27 27 w' w.heap.size (fun _ => True) (.slice Ao6 t101.length co6) t101) ∧ Aside0 (Below w.heap.size w w'))
 case atStart => exact ⟨(0), (by first | rfl | (simp; done) | (simp [*]; done)), H', ⟨Nat.le_refl _⟩, ⟨by (with_reducible repeat (first | apply Kd.R_alloc | apply Kd.R_drewN | apply Kd.R_drew)); exact HO104.out⟩, ⟨by repeat (first | (with_reducible first | exact HB.out | apply below_alloc | apply pw_below_drewN | apply below_drew1) | exact HB.out)⟩⟩
 case round =>
  clear H'
  try clear c1
  try clear c2
  try clear p2
  try clear c5
  obtain ⟨x20_1, rfl, HA, HK1, HO_18, HB⟩ := hrel
  cases gk with
  | zero => exact absurd HA.out (by simp [strata_ring.l0])
  | succ k1 =>
   have H := HA.out
   clear HA
   simp only [strata_ring.l0] at H
   by_cases c7 : x20_1 < (t101.length : Int)
   ·rw [if_pos c7] at H
    have c7b0 : decide (x20_1 < (t101.length : Int)) = true := decide_eq_true c7
    clear c7
    by_cases c8 : 0 ≤ x20_1
    ·rw [if_pos c8] at H
     have c8b0 : decide (0 ≤ x20_1) = true := decide_eq_true c8
     clear c8
     by_cases c9 : x20_1 < (t101.length : Int)
     ·rw [if_pos c9] at H
      have c9b0 : decide (x20_1 < (t101.length : Int)) = true := decide_eq_true c9
      clear c9
      replace H := Option.bind_eq_some_iff.mp H
      obtain ⟨t107, A100, H⟩ := H
      replace H : (if 0 < (t107.length : Int) then ((some (([(rd_T27 t101 x20_1).fst] : List Int) : List Int)).bind fun y110 => (if y110.length + t107.length < 17592186044416 then (some (y110 ++ t107)) else (none))) else (strata_ring.l0 k1 a0 l1 t101 (t101.length : Int) (wrap64 (x20_1 + 1)))) = some r := H
      have A10 := Aside0.mk A100
      clear A100
      by_cases c11 : 0 < (t107.length : Int)
      ·rw [if_pos c11] at H
       have c11b0 : decide (0 < (t107.length : Int)) = true := decide_eq_true c11
       have c11b1 : decide (0 < t107.length) = true := decide_eq_true (by omega)
       clear c11
       obtain ⟨y110, hy110⟩ : ∃ y_ : List Int, y_ = (([(rd_T27 t101 x20_1).fst] : List Int)) := ⟨_, rfl⟩
       replace H : (if y110.length + t107.length < 17592186044416 then (some (y110 ++ t107)) else (none)) = some r := by first | (rw [hy110]; with_reducible exact H) | (have H2_ := (Option.bind_some _ _).symm.trans H; rw [hy110]; with_reducible exact H2_) | (have H2_ := (Option.bind_some _ _).symm.trans H; with_reducible exact H2_) | with_reducible exact H | (rw [hy110]; exact H) | exact H
       have Ny110 := Aside0.mk hy110
       clear hy110
       by_cases c12 : y110.length + t107.length < 17592186044416
       ·rw [if_pos c12] at H
        have LMc12 := Aside0.mk c12
        clear c12
        obtain ⟨y113, hy113⟩ : ∃ y_ : List Int, y_ = (y110 ++ t107) := ⟨_, rfl⟩
        replace H : (some y113) = some r := by first | (rw [hy113]; with_reducible exact H) | (have H2_ := (Option.bind_some _ _).symm.trans H; rw [hy113]; with_reducible exact H2_) | (have H2_ := (Option.bind_some _ _).symm.trans H; with_reducible exact H2_) | with_reducible exact H | (rw [hy113]; exact H) | exact H
        have Ny113 := Aside0.mk hy113
        clear hy113
        obtain rfl := Option.some.inj H
        have p105 : 0 ≤ (x20_1 : Int) := of_decide_eq_true (by first | (with_reducible assumption) | assumption)
        have q105 : x20_1 < (t101.length : Int) := of_decide_eq_true (by first | (with_reducible assumption) | assumption)
        obtain ⟨ad105, e105, hx105_0, hx105_1⟩ := at_T27 (Kd.R_reads' HO_18.out).2.2 x20_1 p105 q105
        cases e105
        replace p105 := eq_true p105
        replace q105 := eq_true q105
        go_wp2_with (first | ((with_reducible refine gate_dst (N := 10) rfl ?_); refine box_event ?hg (N := 10) ?hd (cs := #[.int .i64 0, .int .i64 0]) (t := 27) ?hr ?_; (case hd => rfl); (case hg => rfl); (case hr => first | (go_simp; done) | (go_simp; rfl)); intro gb106 hg w13 hbox hb; have n0_ := Aside0.mk (Kd.R_below (Kd.R_elderB (by (with_reducible repeat (first | apply Kd.R_alloc | apply Kd.R_drewN | apply Kd.R_drew)); exact HO_18.out) gb106 (Nat.le_of_eq hg.symm)) hb); have n1_ := Aside0.mk (below_step (by repeat (first | (with_reducible first | exact HB.out | apply below_alloc | apply pw_below_drewN | apply below_drew1) | exact HB.out)) hb); have n2_ := Aside0.mk (hbox); have n3_ := Aside0.mk ((by rw [hg]; exact (below_size (by repeat (first | (with_reducible first | exact HB.out | apply below_alloc | apply pw_below_drewN | apply below_drew1) | exact HB.out))) : w.heap.size ≤ gb106)); have n4_ := Aside0.mk ((by rw [hg]; exact (below_size (by repeat (first | (with_reducible first | exact HB.out | apply below_alloc | apply pw_below_drewN | apply below_drew1) | exact HB.out))) : w.heap.size ≤ gb106)); clear HO_18; clear HB; have HO_18 := n0_; have HB := n1_; have BK106 := n2_; have GW106 := n3_; have GE106 := n4_; clear n0_ n1_ n2_ n3_ n4_; clear hb hbox hg; have hcz14_0 : w13.cell? ⟨gb106, 0, none⟩ = some (.int .i64 0) := (blk_cell BK106.out 0).trans rfl; have hcz14_1 : w13.cell? ⟨gb106, 1, none⟩ = some (.int .i64 0) := (blk_cell BK106.out 1).trans rfl; have hfz14_0 := blk_frozen BK106.out 0; have hfz14_1 := blk_frozen BK106.out 1) | ((with_reducible refine gate_callee (f := 20) rfl ?_); refine goesL_ (some 30) rfl rfl Try.func20 (by kernel_rfl) rfl #[.int .i64 a0, .slice A1 l1.length c1, .int .i64 ((rd_T27 t101 x20_1).snd), .int .i64 ((rd_T27 t101 x20_1).fst)] rfl (by (try simp only [List.map_toArray, List.map_cons, List.map_nil]); first | done | rfl | (simp only [List.length_drop, List.length_take]; rfl)) ?_; (with_reducible refine (graph_Path.callsN k1 a0 _ _ l1 ((rd_T27 t101 x20_1).snd) ((rd_T27 t101 x20_1).fst) t107 _ ?side1 ?side2 A10.out).mono ?_); (case side1 => exact Kd.C_below HR1.out (by repeat (first | (with_reducible first | exact HB.out | apply below_alloc | apply pw_below_drewN | apply below_drew1 | refine below_set ?_ GE106.out) | exact HB.out))); (case side2 => exact HC1.out); rintro e w15 ⟨v108, rfl, ho0, hb, hnil_⟩; refine ⟨_, rfl, ?_⟩; have n0_ := Aside0.mk (Kd.R_below (by (with_reducible repeat (first | apply Kd.R_alloc | apply Kd.R_drewN | apply Kd.R_drew)); exact (Kd.R_mono (Kd.R_far (p := ⟨gb106, 1, none⟩) (Kd.R_far (p := ⟨gb106, 0, none⟩) (Kd.R_mono HO_18.out (fun k_ hk => (⟨hk, hk.2⟩ : _ ∧ k_ ≠ gb106))) (fun _ hk => hk.2) _) (fun _ hk => hk.2) _) (fun _ h_ => h_.1))) hb); have n1_ := Aside0.mk (Kd.R_lower ho0 (below_size (by repeat (first | (with_reducible first | exact HB.out | apply below_alloc | apply pw_below_drewN | apply below_drew1 | refine below_set ?_ GE106.out) | exact HB.out)))); have n2_ := Aside0.mk (blk_below (g := gb106) (o := .cells #[.int .i64 ((rd_T27 t101 x20_1).fst), .int .i64 ((rd_T27 t101 x20_1).snd)] 27 (0, 0)) (by (with_reducible repeat (first | refine blk_drewN ?_ _ | refine blk_drew ?_ | refine blk_alloc ?_ _)); refine blk_put (cs := #[.int .i64 ((rd_T27 t101 x20_1).fst), .int .i64 0]) ?_ 1 _ rfl; (with_reducible repeat (first | refine blk_drewN ?_ _ | refine blk_drew ?_ | refine blk_alloc ?_ _)); refine blk_put (cs := #[.int .i64 0, .int .i64 0]) ?_ 0 _ rfl; (with_reducible repeat (first | refine blk_drewN ?_ _ | refine blk_drew ?_ | refine blk_alloc ?_ _)); exact BK106.out) hb); have n3_ := Aside0.mk (below_step (by repeat (first | (with_reducible first | exact HB.out | apply below_alloc | apply pw_below_drewN | apply below_drew1 | refine below_set ?_ GE106.out) | exact HB.out)) hb); clear HO_18; clear BK106; clear HB; have HO_18 := n0_; have HO109 := n1_; have BK106 := n2_; have HB := n3_; clear n0_ n1_ n2_ n3_; (try clear hb); (try clear hb2); (try clear hk); (try clear hi); (try clear ho0); obtain ⟨Ao20, co20, eo20⟩ := Kd.R_slice HO109.out; subst eo20; have hs_ := isSome_of HO109.out c11b0; (try clear hnil_); have hcz16_0 : w15.cell? ⟨gb106, 0, none⟩ = some (.int .i64 ((rd_T27 t101 x20_1).fst)) := (blk_cell BK106.out 0).trans rfl; have hcz16_1 : w15.cell? ⟨gb106, 1, none⟩ = some (.int .i64 ((rd_T27 t101 x20_1).snd)) := (blk_cell BK106.out 1).trans rfl; have hfz16_0 := blk_frozen BK106.out 0; have hfz16_1 := blk_frozen BK106.out 1) | ((with_reducible refine gate_dst (N := 35) rfl ?_); refine Kd.R_lit (Kd.int .i64) _ 3 ?hg (N := 35) ?hd (xs := ([(rd_T27 t101 x20_1).fst] : List Int)) (inner := [.int .i64 ((rd_T27 t101 x20_1).fst)]) (ok := fun _ => True) (okp := fun _ => True) ?hr ?hp (fun _ hk => hk) trivial (Below.refl _ _) (Nat.le_refl _) (by simp) ?_; (case hd => rfl); (case hg => rfl); (case hr => first | (go_simp; done) | (go_simp; rfl)); (case hp => exact (Reps.one (show Kd.M (Kd.int .i64) _ _ _ ((rd_T27 t101 x20_1).fst) [.int .i64 ((rd_T27 t101 x20_1).fst)] from rfl) (Reps.none _ _))); intro v111 w17 ho18 hb hg_ hnew_; clear hg_ hnew_; (first | rw [← Ny110.out] at ho18 | (simp only [Int.reduceToNat] at ho18; rw [← Ny110.out] at ho18)); have n0_ := Aside0.mk (Kd.R_below (by (with_reducible repeat (first | apply Kd.R_alloc | apply Kd.R_drewN | apply Kd.R_drew)); exact HO_18.out) hb); have n1_ := Aside0.mk (Kd.R_elder' (by (with_reducible repeat (first | apply Kd.R_alloc | apply Kd.R_drewN | apply Kd.R_drew)); exact HO109.out) (Kd.R_base ho18) hb); have n2_ := Aside0.mk (Kd.R_lower (Kd.R_new' ho18 (Kd.R_lt (by (with_reducible repeat (first | apply Kd.R_alloc | apply Kd.R_drewN | apply Kd.R_drew)); exact HO109.out))) (below_size (by repeat (first | (with_reducible first | exact HB.out | apply below_alloc | apply pw_below_drewN | apply below_drew1 | refine below_set ?_ GE106.out) | exact HB.out)))); have n3_ := Aside0.mk (blk_below (g := gb106) (o := .cells #[.int .i64 ((rd_T27 t101 x20_1).fst), .int .i64 ((rd_T27 t101 x20_1).snd)] 27 (0, 0)) (by (with_reducible repeat (first | refine blk_drewN ?_ _ | refine blk_drew ?_ | refine blk_alloc ?_ _)); exact BK106.out) hb); have n4_ := Aside0.mk (below_step (by repeat (first | (with_reducible first | exact HB.out | apply below_alloc | apply pw_below_drewN | apply below_drew1 | refine below_set ?_ GE106.out) | exact HB.out)) hb); clear HO_18; clear HO109; clear BK106; clear HB; have HO_18 := n0_; have HO109 := n1_; have HO112 := n2_; have BK106 := n3_; have HB := n4_; clear n0_ n1_ n2_ n3_ n4_; clear hb ho18; skip) | ((with_reducible refine gate_builtin (b := .append) (xs := #[.tmp 35, .tmp 36]) rfl ?_); at_builtin; refine Kd.R_append_rows (Kd.int .i64) (w0 := w) w.heap.size rfl (.tmp 35) (.tmp 36) 35 3 (.int .i64 0) 8 rfl Try.underlying35 info3 rfl (by decide) (by omega) v111 y110 t107 _ _ _ (fun k_ => some k_ ≠ (.slice Ao20 t107.length co20 : Value).ownBlock) (fun _ => False) rfl rfl ?aO ?aR (fun _ _ h => h) (fun _ h => h.elim) ?aF ?aB ?aS ?aL ?_; (case aR => repeat (first | exact (Kd.R_reads' HO109.out).2.2 | (with_reducible refine Kd.C_alloc ?_ _) | (with_reducible refine Kd.C_drewN ?_ _) | (with_reducible refine Kd.C_drew ?_))); (case aB => exact (by repeat (first | (with_reducible first | exact HB.out | apply below_alloc | apply pw_below_drewN | apply below_drew1 | refine below_set ?_ GE106.out) | exact HB.out))); (case aF => exact (fun k_ hk => Kd.fresh' (Kd.R_lt (by (with_reducible repeat (first | apply Kd.R_alloc | apply Kd.R_drewN | apply Kd.R_drew)); exact HO109.out)) k_ hk)); (case aO => exact (by (with_reducible repeat (first | apply Kd.R_alloc | apply Kd.R_drewN | apply Kd.R_drew)); exact Kd.R_mono HO112.out (fun _ hk => hk.2))); (case aS => exact (below_size (by repeat (first | (with_reducible first | exact HB.out | apply below_alloc | apply pw_below_drewN | apply below_drew1 | refine below_set ?_ GE106.out) | exact HB.out)))); (case aL => have := LMc12.out; omega); intro v114 w19 ho hb hg hat; rw [← Ny113.out] at ho; have n0_ := Aside0.mk (Kd.R_over' (by (with_reducible repeat (first | apply Kd.R_alloc | apply Kd.R_drewN | apply Kd.R_drew)); exact HO_18.out) (Kd.R_typed (by (with_reducible repeat (first | apply Kd.R_alloc | apply Kd.R_drewN | apply Kd.R_drew)); exact HO112.out)) (by decide) hg); have n1_ := Aside0.mk (blk_grown (g := gb106) (o := .cells #[.int .i64 ((rd_T27 t101 x20_1).fst), .int .i64 ((rd_T27 t101 x20_1).snd)] 27 (0, 0)) (by (with_reducible repeat (first | refine blk_drewN ?_ _ | refine blk_drew ?_ | refine blk_alloc ?_ _)); exact BK106.out) hg (Kd.R_ne HO112.out BK106.out (by decide))); have n2_ := Aside0.mk (Kd.R_after (ok := (fun _ => True)) (by (with_reducible repeat (first | apply Kd.R_alloc | apply Kd.R_drewN | apply Kd.R_drew)); exact HO109.out) hg hat); have n3_ := Aside0.mk (hb); have n4_ := Aside0.mk (ho); clear HO_18; clear BK106; clear HO109; clear HB; clear HO112; have HO_18 := n0_; have BK106 := n1_; have HO109 := n2_; have HB := n3_; have HO115 := n4_; clear n0_ n1_ n2_ n3_ n4_; clear ho hb hg hat))
        go_ret
        exact ⟨_, by first | rfl | (simp [errW_none, errW_some] <;> rfl) | (simp [*, errW_none, errW_some] <;> rfl), by (with_reducible repeat (first | apply Kd.R_alloc | apply Kd.R_drewN | apply Kd.R_drew)); exact Kd.R_mono HO115.out (fun _ hk => trivial), by repeat (first | (with_reducible first | exact HB.out | apply below_alloc | apply pw_below_drewN | apply below_drew1 | refine below_set ?_ GE106.out) | exact HB.out), fun e_ => by have h_ := Ny113.out; rw [e_] at h_; have h2_ := congrArg List.length h_; have h3_ := of_decide_eq_true c11b1; rw [List.length_append] at h2_; simp only [List.length_nil] at h2_; omega⟩
       ·rw [if_neg c12] at H
        exact absurd H (by simp)
      ·rw [if_neg c11] at H
       have c11b0 : decide (0 < (t107.length : Int)) = false := decide_eq_false c11
       have c11b1 : decide (0 < t107.length) = false := decide_eq_false (by omega)
       clear c11
       have H' := Aside0.mk H
       clear H
       have p105 : 0 ≤ (x20_1 : Int) := of_decide_eq_true (by first | (with_reducible assumption) | assumption)
       have q105 : x20_1 < (t101.length : Int) := of_decide_eq_true (by first | (with_reducible assumption) | assumption)
       obtain ⟨ad105, e105, hx105_0, hx105_1⟩ := at_T27 (Kd.R_reads' HO_18.out).2.2 x20_1 p105 q105
       cases e105
       replace p105 := eq_true p105
       replace q105 := eq_true q105
       go_wp2_with (first | ((with_reducible refine gate_dst (N := 10) rfl ?_); refine box_event ?hg (N := 10) ?hd (cs := #[.int .i64 0, .int .i64 0]) (t := 27) ?hr ?_; (case hd => rfl); (case hg => rfl); (case hr => first | (go_simp; done) | (go_simp; rfl)); intro gb106 hg w21 hbox hb; have n0_ := Aside0.mk (Kd.R_below (Kd.R_elderB (by (with_reducible repeat (first | apply Kd.R_alloc | apply Kd.R_drewN | apply Kd.R_drew)); exact HO_18.out) gb106 (Nat.le_of_eq hg.symm)) hb); have n1_ := Aside0.mk (below_step (by repeat (first | (with_reducible first | exact HB.out | apply below_alloc | apply pw_below_drewN | apply below_drew1) | exact HB.out)) hb); have n2_ := Aside0.mk (hbox); have n3_ := Aside0.mk ((by rw [hg]; exact (below_size (by repeat (first | (with_reducible first | exact HB.out | apply below_alloc | apply pw_below_drewN | apply below_drew1) | exact HB.out))) : w.heap.size ≤ gb106)); have n4_ := Aside0.mk ((by rw [hg]; exact (below_size (by repeat (first | (with_reducible first | exact HB.out | apply below_alloc | apply pw_below_drewN | apply below_drew1) | exact HB.out))) : w.heap.size ≤ gb106)); clear HO_18; clear HB; have HO_18 := n0_; have HB := n1_; have BK106 := n2_; have GW106 := n3_; have GE106 := n4_; clear n0_ n1_ n2_ n3_ n4_; clear hb hbox hg; have hcz22_0 : w21.cell? ⟨gb106, 0, none⟩ = some (.int .i64 0) := (blk_cell BK106.out 0).trans rfl; have hcz22_1 : w21.cell? ⟨gb106, 1, none⟩ = some (.int .i64 0) := (blk_cell BK106.out 1).trans rfl; have hfz22_0 := blk_frozen BK106.out 0; have hfz22_1 := blk_frozen BK106.out 1) | ((with_reducible refine gate_callee (f := 20) rfl ?_); refine goesL_ (some 30) rfl rfl Try.func20 (by kernel_rfl) rfl #[.int .i64 a0, .slice A1 l1.length c1, .int .i64 ((rd_T27 t101 x20_1).snd), .int .i64 ((rd_T27 t101 x20_1).fst)] rfl (by (try simp only [List.map_toArray, List.map_cons, List.map_nil]); first | done | rfl | (simp only [List.length_drop, List.length_take]; rfl)) ?_; (with_reducible refine (graph_Path.callsN k1 a0 _ _ l1 ((rd_T27 t101 x20_1).snd) ((rd_T27 t101 x20_1).fst) t107 _ ?side1 ?side2 A10.out).mono ?_); (case side1 => exact Kd.C_below HR1.out (by repeat (first | (with_reducible first | exact HB.out | apply below_alloc | apply pw_below_drewN | apply below_drew1 | refine below_set ?_ GE106.out) | exact HB.out))); (case side2 => exact HC1.out); rintro e w23 ⟨v108, rfl, ho0, hb, hnil_⟩; refine ⟨_, rfl, ?_⟩; have n0_ := Aside0.mk (Kd.R_below (by (with_reducible repeat (first | apply Kd.R_alloc | apply Kd.R_drewN | apply Kd.R_drew)); exact (Kd.R_mono (Kd.R_far (p := ⟨gb106, 1, none⟩) (Kd.R_far (p := ⟨gb106, 0, none⟩) (Kd.R_mono HO_18.out (fun k_ hk => (⟨hk, hk.2⟩ : _ ∧ k_ ≠ gb106))) (fun _ hk => hk.2) _) (fun _ hk => hk.2) _) (fun _ h_ => h_.1))) hb); have n1_ := Aside0.mk (Kd.R_lower ho0 (below_size (by repeat (first | (with_reducible first | exact HB.out | apply below_alloc | apply pw_below_drewN | apply below_drew1 | refine below_set ?_ GE106.out) | exact HB.out)))); have n2_ := Aside0.mk (blk_below (g := gb106) (o := .cells #[.int .i64 ((rd_T27 t101 x20_1).fst), .int .i64 ((rd_T27 t101 x20_1).snd)] 27 (0, 0)) (by (with_reducible repeat (first | refine blk_drewN ?_ _ | refine blk_drew ?_ | refine blk_alloc ?_ _)); refine blk_put (cs := #[.int .i64 ((rd_T27 t101 x20_1).fst), .int .i64 0]) ?_ 1 _ rfl; (with_reducible repeat (first | refine blk_drewN ?_ _ | refine blk_drew ?_ | refine blk_alloc ?_ _)); refine blk_put (cs := #[.int .i64 0, .int .i64 0]) ?_ 0 _ rfl; (with_reducible repeat (first | refine blk_drewN ?_ _ | refine blk_drew ?_ | refine blk_alloc ?_ _)); exact BK106.out) hb); have n3_ := Aside0.mk (below_step (by repeat (first | (with_reducible first | exact HB.out | apply below_alloc | apply pw_below_drewN | apply below_drew1 | refine below_set ?_ GE106.out) | exact HB.out)) hb); clear HO_18; clear BK106; clear HB; have HO_18 := n0_; have HO109 := n1_; have BK106 := n2_; have HB := n3_; clear n0_ n1_ n2_ n3_; (try clear hb); (try clear hb2); (try clear hk); (try clear hi); (try clear ho0); (have en_ := hnil_ (nil_of c11b0); subst en_); (try clear hnil_)))
       go_roundg k1
       case measure => have := HK1.out; omega
       case rel => exact ⟨(wrap64 (x20_1 + 1)), (by first | rfl | (simp; done) | (simp [*]; done)), H', ⟨by have := HK1.out; omega⟩, ⟨by (with_reducible repeat (first | apply Kd.R_alloc | apply Kd.R_drewN | apply Kd.R_drew)); exact Kd.R_mono HO_18.out (fun _ hk => trivial)⟩, ⟨by repeat (first | (with_reducible first | exact HB.out | apply below_alloc | apply pw_below_drewN | apply below_drew1 | refine below_set ?_ GE106.out) | exact HB.out)⟩⟩
     ·rw [if_neg c9] at H
      exact absurd H (by simp)
    ·rw [if_neg c8] at H
     exact absurd H (by simp)
   ·rw [if_neg c7] at H
    have c7b0 : decide (x20_1 < (t101.length : Int)) = false := decide_eq_false c7
    clear c7
    obtain rfl := Option.some.inj H
    go_wp2
    go_ret
    exact ⟨_, by first | rfl | (simp [errW_none, errW_some] <;> rfl) | (simp [*, errW_none, errW_some] <;> rfl), by first | exact Kd.R_nil _ _ _ _ _ | exact Kd.N_nil _ _ _ _ _ | exact Kd.V_nil _ _ _ _ _ | exact Kd.Q_nil _ _ _ _ _ | exact Kd.S_nil _ _ _ _ _, by repeat (first | (with_reducible first | exact HB.out | apply below_alloc | apply pw_below_drewN | apply below_drew1) | exact HB.out), by intros; first | rfl | (go_simp; done)⟩
def strata_Of.l0 : Nat → List ByteArray → List ByteArray → List Int → Int → Int → Option (List Int × List ByteArray × Int)
 | 0, _, _, _, _, _ => none
 | k + 1, x5, x9, x30, x31, x32 => if x32 < x31 then (if 0 ≤ x32 then (if x32 < (x30.length : Int) then (if 0 ≤ (rd x30 x32) then (if (rd x30 x32) < (x5.length : Int) then (if x9.length < 8796093022208 then (strata_Of.l0 k x5 (x9 ++ [rdOf ByteArray.empty x5 (rd x30 x32)]) x30 x31 (wrap64 (x32 + 1))) else (none)) else (none)) else (none)) else (none)) else (none)) else (some (([] : List Int), x9, 7))
def strata_Of.f (k : Nat) (l0_0 : List (Decl)) (l0_1 : List (Rule)) : Option (List Int × List ByteArray × Int) := (strata_Preds.f k l0_0 l0_1).bind fun t102 => (if (t102.length : Int) > 1000 then (some (([] : List Int), ([] : List ByteArray), 4)) else ((strata_edges.f k l0_0 l0_1 t102).bind fun bt105 => ((strata_ring.f k (t102.length : Int) bt105.1 bt105.2).bind fun t111 => (if 0 < (t111.length : Int) then (strata_Of.l0 k t102 ([] : List ByteArray) t111 (t111.length : Int) 0) else ((strata_levels.f k (t102.length : Int) bt105.1 bt105.2).bind fun t119 => (some (t119, ([] : List ByteArray), 0)))))))
theorem strata_Of.mono_l : ∀ k, (∀ y0 y1 y2 y3 y4, LeO (strata_Of.l0 k y0 y1 y2 y3 y4) (strata_Of.l0 (k + 1) y0 y1 y2 y3 y4))
 | 0 => fun _ _ _ _ _ r h => by simp [strata_Of.l0] at h
 | k + 1 => by
  have ih0 := strata_Of.mono_l k
  ·intro y0 y1 y2 y3 y4
   unfold strata_Of.l0
   repeat' first
   | (with_reducible exact ih0 _ _ _ _ _)
   | (with_reducible exact strata_Preds.mono _ _ _)
   | (with_reducible exact strata_edges.mono _ _ _ _)
   | (with_reducible exact strata_levels.mono _ _ _ _)
   | (with_reducible exact strata_ring.mono _ _ _ _)
   | (with_reducible exact LeO.refl _)
   | (with_reducible exact LeO.none _)
   | (with_reducible refine LeO.ite ?_ ?_)
   | (with_reducible refine LeO.bind ?_ (fun _ => ?_))
   | exact ih0 _ _ _ _ _
   | exact strata_Preds.mono _ _ _
   | exact strata_edges.mono _ _ _ _
   | exact strata_levels.mono _ _ _ _
   | exact strata_ring.mono _ _ _ _
   | exact LeO.none _
   | refine LeO.ite ?_ ?_
   | refine LeO.bind ?_ (fun _ => ?_)
theorem strata_Of.mono : ∀ a0 a1 k, LeO (strata_Of.f k a0 a1) (strata_Of.f (k + 1) a0 a1) := by
 intro a0 a1 k
 have ih0 := strata_Of.mono_l k
 unfold strata_Of.f
 repeat' first
   | (with_reducible exact ih0 _ _ _ _ _)
   | (with_reducible exact strata_Preds.mono _ _ _)
   | (with_reducible exact strata_edges.mono _ _ _ _)
   | (with_reducible exact strata_levels.mono _ _ _ _)
   | (with_reducible exact strata_ring.mono _ _ _ _)
   | (with_reducible exact LeO.refl _)
   | (with_reducible exact LeO.none _)
   | (with_reducible refine LeO.ite ?_ ?_)
   | (with_reducible refine LeO.bind ?_ (fun _ => ?_))
   | exact ih0 _ _ _ _ _
   | exact strata_Preds.mono _ _ _
   | exact strata_edges.mono _ _ _ _
   | exact strata_levels.mono _ _ _ _
   | exact strata_ring.mono _ _ _ _
   | exact LeO.none _
   | refine LeO.ite ?_ ?_
   | refine LeO.bind ?_ (fun _ => ?_)
set_option maxHeartbeats 8000000 in
set_option maxRecDepth 100000 in
theorem strata_Of.calls (k : Nat) (A0_0 : Option Addr) (c0_0 : Nat) (l0_0 : List (Decl)) (A0_1 : Option Addr) (c0_1 : Nat) (l0_1 : List (Rule)) (r1 : List Int) (r2 : List ByteArray) (r3 : Int) (w : World) (hr0_0 : Kd.C k96 w A0_0 l0_0.length l0_0) (hc0_0 : l0_0.length ≤ c0_0) (hr0_1 : Kd.C k64 w A0_1 l0_1.length l0_1) (hc0_1 : l0_1.length ≤ c0_1) (h : strata_Of.f k l0_0 l0_1 = some (r1, r2, r3)) :
  Calls Try.prog 29 #[.agg #[.slice A0_0 l0_0.length c0_0, .slice A0_1 l0_1.length c0_1]] w fun e w' => ∃ v0_ v1_ : Value, e = .returned (.tuple #[v0_, v1_, .int .i64 r3]) ∧ Kd.R (Kd.int .i64) 3 w' w.heap.size (fun _ => True) v0_ r1 ∧ Kd.R Kd.string 9 w' w.heap.size (fun _ => True) v1_ r2 ∧ Below w.heap.size w w' := by
 have hu50 := Try.underlying50
 have nq_ : ∀ (W : World) (a : Option Addr) (l c : Nat), (binOp .neq 35 (.slice a l c) (.slice none 0 0)).run Try.prog W = .ok (.bool (!a.isNone)) W := fun W a l c => run_neq_slice_nil W 35 _ a l c Try.underlying35
 have HR0_0 := am hr0_0
 have HC0_0 := am hc0_0
 clear hr0_0 hc0_0
 have HR0_1 := am hr0_1
 have HC0_1 := am hc0_1
 clear hr0_1 hc0_1
 have HB := am (Below.refl w.heap.size w)
 have H : ((strata_Preds.f k l0_0 l0_1).bind fun t102 => (if (t102.length : Int) > 1000 then (some (([] : List Int), ([] : List ByteArray), 4)) else ((strata_edges.f k l0_0 l0_1 t102).bind fun bt105 => ((strata_ring.f k (t102.length : Int) bt105.1 bt105.2).bind fun t111 => (if 0 < (t111.length : Int) then (strata_Of.l0 k t102 ([] : List ByteArray) t111 (t111.length : Int) 0) else ((strata_levels.f k (t102.length : Int) bt105.1 bt105.2).bind fun t119 => (some (t119, ([] : List ByteArray), 0)))))))) = some (r1, r2, r3) := h
 clear h
 replace H := Option.bind_eq_some_iff.mp H
 obtain ⟨t102, A20, H⟩ := H
 replace H : (if (t102.length : Int) > 1000 then (some (([] : List Int), ([] : List ByteArray), 4)) else ((strata_edges.f k l0_0 l0_1 t102).bind fun bt105 => ((strata_ring.f k (t102.length : Int) bt105.1 bt105.2).bind fun t111 => (if 0 < (t111.length : Int) then (strata_Of.l0 k t102 ([] : List ByteArray) t111 (t111.length : Int) 0) else ((strata_levels.f k (t102.length : Int) bt105.1 bt105.2).bind fun t119 => (some (t119, ([] : List ByteArray), 0))))))) = some (r1, r2, r3) := H
 have A2 := am A20
 clear A20
 by_cases c3 : (t102.length : Int) > 1000
 ·rw [if_pos c3] at H
  have c3b0 : decide (1000 < (t102.length : Int)) = true := decide_eq_true c3
  have c3b1 : decide (1000 < t102.length) = true := decide_eq_true (by omega)
  clear c3
  simp only [Option.some.injEq, Prod.mk.injEq] at H
  obtain ⟨rfl, rfl, rfl⟩ := H
  go_enter Try.func29, Try.ntmps29
  go_wp2_with (first | ((with_reducible refine gate_dst (N := 1) rfl ?_); refine box_event ?hg (N := 1) ?hd (cs := #[.slice A0_0 l0_0.length c0_0, .slice A0_1 l0_1.length c0_1]) (t := 50) ?hr ?_; (case hd => rfl); (case hg => rfl); (case hr => first | (go_simp; done) | (go_simp; rfl)); intro gb101 hg w4 hbox hb; have BK101 := am (hbox); have GW101 := am ((by rw [hg]; exact (below_size (by repeat (first | (with_reducible first | exact HB.out | apply lA | apply lN | apply lD) | exact HB.out))) : w.heap.size ≤ gb101)); have GE101 := am ((by rw [hg]; exact (below_size (by repeat (first | (with_reducible first | exact HB.out | apply lA | apply lN | apply lD) | exact HB.out))) : w.heap.size ≤ gb101)); replace HB := am (below_step (by repeat (first | (with_reducible first | exact HB.out | apply lA | apply lN | apply lD) | exact HB.out)) hb); clear hb hbox hg; have hcz5_0 : w4.cell? ⟨gb101, 0, none⟩ = some (.slice A0_0 l0_0.length c0_0) := (blk_cell BK101.out 0).trans rfl; have hcz5_1 : w4.cell? ⟨gb101, 1, none⟩ = some (.slice A0_1 l0_1.length c0_1) := (blk_cell BK101.out 1).trans rfl; have hfz5_0 := blk_frozen BK101.out 0; have hfz5_1 := blk_frozen BK101.out 1) | ((with_reducible refine gate_callee (f := 32) rfl ?_); refine goesL_ (some 13) rfl rfl Try.func32 (by kernel_rfl) rfl #[.agg #[.slice A0_0 l0_0.length c0_0, .slice A0_1 l0_1.length c0_1]] rfl (by (try simp only [List.map_toArray, List.map_cons, List.map_nil]); first | done | rfl | (simp only [List.length_drop, List.length_take]; rfl)) ?_; (with_reducible refine (strata_Preds.calls k _ _ l0_0 _ _ l0_1 t102 _ ?side1 ?side2 ?side3 ?side4 A2.out).mono ?_); (case side1 => repeat (first | exact (Kd.C_below HR0_0.out HB.out) | (with_reducible refine Kd.C_alloc ?_ _) | (with_reducible refine Kd.C_drewN ?_ _) | (with_reducible refine Kd.C_drew ?_))); (case side2 => exact HC0_0.out); (case side3 => repeat (first | exact (Kd.C_below HR0_1.out HB.out) | (with_reducible refine Kd.C_alloc ?_ _) | (with_reducible refine Kd.C_drewN ?_ _) | (with_reducible refine Kd.C_drew ?_))); (case side4 => exact HC0_1.out); rintro e w6 ⟨v103, rfl, ho0, hb⟩; refine ⟨_, rfl, ?_⟩; have HO104 := am (Kd.R_lower ho0 (below_size (by repeat (first | (with_reducible first | exact HB.out | apply lA | apply lN | apply lD | refine lS ?_ GE101.out) | exact HB.out)))); replace BK101 := am (blk_below (g := gb101) (o := .cells #[.slice A0_0 l0_0.length c0_0, .slice A0_1 l0_1.length c0_1] 50 (0, 0)) (by (with_reducible repeat (first | refine bN ?_ _ | refine bD ?_ | refine bA ?_ _)); exact BK101.out) hb); replace HB := am (below_step (by repeat (first | (with_reducible first | exact HB.out | apply lA | apply lN | apply lD | refine lS ?_ GE101.out) | exact HB.out)) hb); (try clear hb); (try clear hb2); (try clear hk); (try clear hi); (try clear ho0); obtain ⟨Ao7, co7, eo7⟩ := Kd.R_slice HO104.out; subst eo7))
  go_ret3
  exact ⟨_, _, by first | rfl | (simp [errW_none, errW_some] <;> rfl) | (simp [*, errW_none, errW_some] <;> rfl), by first | exact Kd.R_nil _ _ _ _ _ | exact Kd.N_nil _ _ _ _ _ | exact Kd.V_nil _ _ _ _ _ | exact Kd.Q_nil _ _ _ _ _ | exact Kd.S_nil _ _ _ _ _, by first | exact Kd.R_nil _ _ _ _ _ | exact Kd.N_nil _ _ _ _ _ | exact Kd.V_nil _ _ _ _ _ | exact Kd.Q_nil _ _ _ _ _ | exact Kd.S_nil _ _ _ _ _, by repeat (first | (with_reducible first | exact HB.out | apply lA | apply lN | apply lD | refine lS ?_ GE101.out) | exact HB.out)⟩
 ·rw [if_neg c3] at H
  have c3b0 : decide (1000 < (t102.length : Int)) = false := decide_eq_false c3
  have c3b1 : decide (1000 < t102.length) = false := decide_eq_false (by omega)
  clear c3
  replace H := Option.bind_eq_some_iff.mp H
  obtain ⟨⟨t105, t108⟩, A80, H⟩ := H
  replace H : ((strata_ring.f k (t102.length : Int) t105 t108).bind fun t111 => (if 0 < (t111.length : Int) then (strata_Of.l0 k t102 ([] : List ByteArray) t111 (t111.length : Int) 0) else ((strata_levels.f k (t102.length : Int) t105 t108).bind fun t119 => (some (t119, ([] : List ByteArray), 0))))) = some (r1, r2, r3) := H
  have A8 := am A80
  clear A80
  replace H := Option.bind_eq_some_iff.mp H
  obtain ⟨t111, A90, H⟩ := H
  replace H : (if 0 < (t111.length : Int) then (strata_Of.l0 k t102 ([] : List ByteArray) t111 (t111.length : Int) 0) else ((strata_levels.f k (t102.length : Int) t105 t108).bind fun t119 => (some (t119, ([] : List ByteArray), 0)))) = some (r1, r2, r3) := H
  have A9 := am A90
  clear A90
  by_cases c10 : 0 < (t111.length : Int)
  ·rw [if_pos c10] at H
   have c10b0 : decide (0 < (t111.length : Int)) = true := decide_eq_true c10
   have c10b1 : decide (0 < t111.length) = true := decide_eq_true (by omega)
   clear c10
   have H' := am H
   clear H
   go_enter Try.func29, Try.ntmps29
   go_wp2_with (first | ((with_reducible refine gate_dst (N := 1) rfl ?_); refine box_event ?hg (N := 1) ?hd (cs := #[.slice A0_0 l0_0.length c0_0, .slice A0_1 l0_1.length c0_1]) (t := 50) ?hr ?_; (case hd => rfl); (case hg => rfl); (case hr => first | (go_simp; done) | (go_simp; rfl)); intro gb101 hg w11 hbox hb; have BK101 := am (hbox); have GW101 := am ((by rw [hg]; exact (below_size (by repeat (first | (with_reducible first | exact HB.out | apply lA | apply lN | apply lD) | exact HB.out))) : w.heap.size ≤ gb101)); have GE101 := am ((by rw [hg]; exact (below_size (by repeat (first | (with_reducible first | exact HB.out | apply lA | apply lN | apply lD) | exact HB.out))) : w.heap.size ≤ gb101)); replace HB := am (below_step (by repeat (first | (with_reducible first | exact HB.out | apply lA | apply lN | apply lD) | exact HB.out)) hb); clear hb hbox hg; have hcz12_0 : w11.cell? ⟨gb101, 0, none⟩ = some (.slice A0_0 l0_0.length c0_0) := (blk_cell BK101.out 0).trans rfl; have hcz12_1 : w11.cell? ⟨gb101, 1, none⟩ = some (.slice A0_1 l0_1.length c0_1) := (blk_cell BK101.out 1).trans rfl; have hfz12_0 := blk_frozen BK101.out 0; have hfz12_1 := blk_frozen BK101.out 1) | ((with_reducible refine gate_callee (f := 32) rfl ?_); refine goesL_ (some 13) rfl rfl Try.func32 (by kernel_rfl) rfl #[.agg #[.slice A0_0 l0_0.length c0_0, .slice A0_1 l0_1.length c0_1]] rfl (by (try simp only [List.map_toArray, List.map_cons, List.map_nil]); first | done | rfl | (simp only [List.length_drop, List.length_take]; rfl)) ?_; (with_reducible refine (strata_Preds.calls k _ _ l0_0 _ _ l0_1 t102 _ ?side1 ?side2 ?side3 ?side4 A2.out).mono ?_); (case side1 => repeat (first | exact (Kd.C_below HR0_0.out HB.out) | (with_reducible refine Kd.C_alloc ?_ _) | (with_reducible refine Kd.C_drewN ?_ _) | (with_reducible refine Kd.C_drew ?_))); (case side2 => exact HC0_0.out); (case side3 => repeat (first | exact (Kd.C_below HR0_1.out HB.out) | (with_reducible refine Kd.C_alloc ?_ _) | (with_reducible refine Kd.C_drewN ?_ _) | (with_reducible refine Kd.C_drew ?_))); (case side4 => exact HC0_1.out); rintro e w13 ⟨v103, rfl, ho0, hb⟩; refine ⟨_, rfl, ?_⟩; have HO104 := am (Kd.R_lower ho0 (below_size (by repeat (first | (with_reducible first | exact HB.out | apply lA | apply lN | apply lD | refine lS ?_ GE101.out) | exact HB.out)))); replace BK101 := am (blk_below (g := gb101) (o := .cells #[.slice A0_0 l0_0.length c0_0, .slice A0_1 l0_1.length c0_1] 50 (0, 0)) (by (with_reducible repeat (first | refine bN ?_ _ | refine bD ?_ | refine bA ?_ _)); exact BK101.out) hb); replace HB := am (below_step (by repeat (first | (with_reducible first | exact HB.out | apply lA | apply lN | apply lD | refine lS ?_ GE101.out) | exact HB.out)) hb); (try clear hb); (try clear hb2); (try clear hk); (try clear hi); (try clear ho0); obtain ⟨Ao14, co14, eo14⟩ := Kd.R_slice HO104.out; subst eo14; have hcz15_0 : w13.cell? ⟨gb101, 0, none⟩ = some (.slice A0_0 l0_0.length c0_0) := (blk_cell BK101.out 0).trans rfl; have hcz15_1 : w13.cell? ⟨gb101, 1, none⟩ = some (.slice A0_1 l0_1.length c0_1) := (blk_cell BK101.out 1).trans rfl; have hfz15_0 := blk_frozen BK101.out 0; have hfz15_1 := blk_frozen BK101.out 1) | ((with_reducible refine gate_callee (f := 52) rfl ?_); refine goesL_ (some 20) rfl rfl Try.func52 (by kernel_rfl) rfl #[.agg #[.slice A0_0 l0_0.length c0_0, .slice A0_1 l0_1.length c0_1], .slice Ao14 t102.length co14] rfl (by (try simp only [List.map_toArray, List.map_cons, List.map_nil]); first | done | rfl | (simp only [List.length_drop, List.length_take]; rfl)) ?_; (with_reducible refine (strata_edges.calls k _ _ l0_0 _ _ l0_1 _ _ t102 t105 t108 _ ?side1 ?side2 ?side3 ?side4 ?side5 ?side6 A8.out).mono ?_); (case side1 => repeat (first | exact (Kd.C_below HR0_0.out HB.out) | (with_reducible refine Kd.C_alloc ?_ _) | (with_reducible refine Kd.C_drewN ?_ _) | (with_reducible refine Kd.C_drew ?_))); (case side2 => exact HC0_0.out); (case side3 => repeat (first | exact (Kd.C_below HR0_1.out HB.out) | (with_reducible refine Kd.C_alloc ?_ _) | (with_reducible refine Kd.C_drewN ?_ _) | (with_reducible refine Kd.C_drew ?_))); (case side4 => exact HC0_1.out); (case side5 => repeat (first | exact (Kd.R_reads' HO104.out).2.2 | (with_reducible refine Kd.C_alloc ?_ _) | (with_reducible refine Kd.C_drewN ?_ _) | (with_reducible refine Kd.C_drew ?_))); (case side6 => exact (Kd.R_reads' HO104.out).2.1); rintro e w16 ⟨v106, v109, rfl, ho0, ho1, hb⟩; refine ⟨_, rfl, ?_⟩; replace HO104 := am (Kd.R_below (by (with_reducible repeat (first | apply Ra | apply Rn | apply Rd)); exact HO104.out) hb); have HO107 := am (Kd.R_lower ho0 (below_size (by repeat (first | (with_reducible first | exact HB.out | apply lA | apply lN | apply lD | refine lS ?_ GE101.out) | exact HB.out)))); have HO110 := am (Kd.R_lower ho1 (below_size (by repeat (first | (with_reducible first | exact HB.out | apply lA | apply lN | apply lD | refine lS ?_ GE101.out) | exact HB.out)))); replace BK101 := am (blk_below (g := gb101) (o := .cells #[.slice A0_0 l0_0.length c0_0, .slice A0_1 l0_1.length c0_1] 50 (0, 0)) (by (with_reducible repeat (first | refine bN ?_ _ | refine bD ?_ | refine bA ?_ _)); exact BK101.out) hb); replace HB := am (below_step (by repeat (first | (with_reducible first | exact HB.out | apply lA | apply lN | apply lD | refine lS ?_ GE101.out) | exact HB.out)) hb); (try clear hb); (try clear hb2); (try clear hk); (try clear hi); (try clear ho0); (try clear ho1); obtain ⟨Ao17, co17, eo17⟩ := Kd.R_slice HO107.out; subst eo17; obtain ⟨Ao18, co18, eo18⟩ := Kd.R_slice HO110.out; subst eo18) | ((with_reducible refine gate_callee (f := 53) rfl ?_); refine goesL_ (some 27) rfl rfl Try.func53 (by kernel_rfl) rfl #[.int .i64 (t102.length : Int), .slice Ao17 t105.length co17, .slice Ao18 t108.length co18] rfl (by (try simp only [List.map_toArray, List.map_cons, List.map_nil]); first | done | rfl | (simp only [List.length_drop, List.length_take]; rfl)) ?_; (with_reducible refine (strata_ring.calls k (t102.length : Int) _ _ t105 _ _ t108 t111 _ ?side1 ?side2 ?side3 ?side4 A9.out).mono ?_); (case side1 => repeat (first | exact (Kd.R_reads' HO107.out).2.2 | (with_reducible refine Kd.C_alloc ?_ _) | (with_reducible refine Kd.C_drewN ?_ _) | (with_reducible refine Kd.C_drew ?_))); (case side2 => exact (Kd.R_reads' HO107.out).2.1); (case side3 => repeat (first | exact (Kd.R_reads' HO110.out).2.2 | (with_reducible refine Kd.C_alloc ?_ _) | (with_reducible refine Kd.C_drewN ?_ _) | (with_reducible refine Kd.C_drew ?_))); (case side4 => exact (Kd.R_reads' HO110.out).2.1); rintro e w19 ⟨v112, rfl, ho0, hb, hnil_⟩; refine ⟨_, rfl, ?_⟩; replace HO104 := am (Kd.R_below (by (with_reducible repeat (first | apply Ra | apply Rn | apply Rd)); exact HO104.out) hb); replace HO107 := am (Kd.R_below (by (with_reducible repeat (first | apply Ra | apply Rn | apply Rd)); exact HO107.out) hb); replace HO110 := am (Kd.R_below (by (with_reducible repeat (first | apply Ra | apply Rn | apply Rd)); exact HO110.out) hb); have HO113 := am (Kd.R_lower ho0 (below_size (by repeat (first | (with_reducible first | exact HB.out | apply lA | apply lN | apply lD | refine lS ?_ GE101.out) | exact HB.out)))); replace BK101 := am (blk_below (g := gb101) (o := .cells #[.slice A0_0 l0_0.length c0_0, .slice A0_1 l0_1.length c0_1] 50 (0, 0)) (by (with_reducible repeat (first | refine bN ?_ _ | refine bD ?_ | refine bA ?_ _)); exact BK101.out) hb); replace HB := am (below_step (by repeat (first | (with_reducible first | exact HB.out | apply lA | apply lN | apply lD | refine lS ?_ GE101.out) | exact HB.out)) hb); (try clear hb); (try clear hb2); (try clear hk); (try clear hi); (try clear ho0); obtain ⟨Ao20, co20, eo20⟩ := Kd.R_slice HO113.out; subst eo20; have hs_ := isSome_of HO113.out c10b0; (try clear hnil_); skip))
   go_loopg [9, 32] k (fun kq v9 v32 w' => ∃ (x9_1 : List ByteArray) (x32_1 : Int), v32 = .int .i64 x32_1 ∧ Aside0 (strata_Of.l0 kq t102 x9_1 t111 (t111.length : Int) x32_1 = some (r1, r2, r3)) ∧ Aside0 (kq ≤ k) ∧ Aside0 (Kd.R Kd.string 9 w' w.heap.size (fun k_ => some k_ ≠ (v9 : Value).ownBlock) (.slice Ao14 t102.length co14) t102) ∧ Aside0 (Kd.R Kd.string 9 w' w.heap.size (fun k_ => some k_ ≠ ((.slice Ao14 t102.length co14) : Value).ownBlock) v9 x9_1) ∧ Aside0 (Kd.R (Kd.int .i64) 3 w' w.heap.size (fun _ => True) (.slice Ao20 t111.length co20) t111) ∧ Aside0 (w'.heap[gb101]? = some (.cells #[(.slice A0_0 l0_0.length c0_0), (.slice A0_1 l0_1.length c0_1)] 50 (0, 0))) ∧ Aside0 (Below w.heap.size w w'))
   case atStart => exact ⟨(([] : List ByteArray)), (0), (by first | rfl | (simp; done) | (simp [*]; done)), H', ⟨Nat.le_refl _⟩, ⟨by (with_reducible repeat (first | apply Ra | apply Rn | apply Rd)); exact Kd.R_mono HO104.out (fun _ hk => (by simp [Value.ownBlock]))⟩, ⟨by first | exact Kd.R_nil _ _ _ _ _ | exact Kd.N_nil _ _ _ _ _ | exact Kd.V_nil _ _ _ _ _ | exact Kd.Q_nil _ _ _ _ _ | exact Kd.S_nil _ _ _ _ _⟩, ⟨by (with_reducible repeat (first | apply Ra | apply Rn | apply Rd)); exact HO113.out⟩, ⟨by (with_reducible repeat (first | refine bN ?_ _ | refine bD ?_ | refine bA ?_ _)); exact BK101.out⟩, ⟨by repeat (first | (with_reducible first | exact HB.out | apply lA | apply lN | apply lD | refine lS ?_ GE101.out) | exact HB.out)⟩⟩
   case round =>
    clear H'
    try clear c1
    try clear c2
    try clear p2
    try clear c3
    try clear c3b0
    try clear c3b1
    try clear c5
    try clear c10
    try clear c10b0
    try clear c10b1
    try clear hcz12_0
    try clear hcz12_1
    try clear hcz15_0
    try clear hcz15_1
    try clear hcz5_0
    try clear hcz5_1
    try clear hfz12_0
    try clear hfz12_1
    try clear hfz15_0
    try clear hfz15_1
    try clear hfz5_0
    try clear hfz5_1
    obtain ⟨x9_1, x32_1, rfl, HA, HK1, HO_5, HO_9, HO_30, BK101, HB⟩ := hrel
    cases gk with
    | zero => exact absurd HA.out (by simp [strata_Of.l0])
    | succ k1 =>
     have H := HA.out
     clear HA
     simp only [strata_Of.l0] at H
     by_cases c21 : x32_1 < (t111.length : Int)
     ·rw [if_pos c21] at H
      have c21b0 : decide (x32_1 < (t111.length : Int)) = true := decide_eq_true c21
      clear c21
      by_cases c22 : 0 ≤ x32_1
      ·rw [if_pos c22] at H
       have c22b0 : decide (0 ≤ x32_1) = true := decide_eq_true c22
       clear c22
       by_cases c23 : x32_1 < (t111.length : Int)
       ·rw [if_pos c23] at H
        have c23b0 : decide (x32_1 < (t111.length : Int)) = true := decide_eq_true c23
        clear c23
        by_cases c24 : 0 ≤ (rd t111 x32_1)
        ·rw [if_pos c24] at H
         have c24b0 : decide (0 ≤ (rd t111 x32_1)) = true := decide_eq_true c24
         clear c24
         by_cases c25 : (rd t111 x32_1) < (t102.length : Int)
         ·rw [if_pos c25] at H
          have c25b0 : decide ((rd t111 x32_1) < (t102.length : Int)) = true := decide_eq_true c25
          clear c25
          by_cases c26 : x9_1.length < 8796093022208
          ·rw [if_pos c26] at H
           have LMc26 := am c26
           clear c26
           obtain ⟨y116, hy116⟩ : ∃ y_ : List ByteArray, y_ = (x9_1 ++ [rdOf ByteArray.empty t102 (rd t111 x32_1)]) := ⟨_, rfl⟩
           replace H : (strata_Of.l0 k1 t102 y116 t111 (t111.length : Int) (wrap64 (x32_1 + 1))) = some (r1, r2, r3) := by first | (rw [hy116]; with_reducible exact H) | (have H2_ := (Option.bind_some _ _).symm.trans H; rw [hy116]; with_reducible exact H2_) | (have H2_ := (Option.bind_some _ _).symm.trans H; with_reducible exact H2_) | with_reducible exact H | (rw [hy116]; exact H) | exact H
           have Ny116 := am hy116
           clear hy116
           have H' := am H
           clear H
           have p114 : 0 ≤ (x32_1 : Int) := of_decide_eq_true (by first | (with_reducible assumption) | assumption)
           have q114 : x32_1 < (t111.length : Int) := of_decide_eq_true (by first | (with_reducible assumption) | assumption)
           obtain ⟨ad114, e114, hx114_0⟩ := Kd.at_int (Kd.R_reads' HO_30.out).2.2 x32_1 p114 q114
           cases e114
           replace p114 := eq_true p114
           replace q114 := eq_true q114
           have p115 : 0 ≤ ((rd t111 x32_1) : Int) := of_decide_eq_true (by first | (with_reducible assumption) | assumption)
           have q115 : (rd t111 x32_1) < (t102.length : Int) := of_decide_eq_true (by first | (with_reducible assumption) | assumption)
           obtain ⟨ad115, e115, hx115_0⟩ := Kd.at_string (Kd.R_reads' HO_5.out).2.2 (rd t111 x32_1) p115 q115
           cases e115
           replace p115 := eq_true p115
           replace q115 := eq_true q115
           go_wp2_with (first | ((with_reducible refine gate_builtin (b := .append) (xs := #[.tmp 36, .tmp 41]) rfl ?_); at_builtin; refine Kd.R_append Kd.string (w0 := w) w.heap.size rfl (.tmp 36) (.tmp 41) 52 9 (.string ⟨#[]⟩) 16 rfl Try.underlying52 info9 rfl (by decide) (by omega) u9 x9_1 (rdOf ByteArray.empty t102 (rd t111 x32_1)) [.string (rdOf ByteArray.empty t102 (rd t111 x32_1))] (fun k_ => some k_ ≠ (.slice (some ad115) t102.length co14 : Value).ownBlock) (fun _ => False) rfl rfl ?aP (fun _ hk => hk.elim) ?aF ?aO ?aB ?aS ?aL ?_; (case aP => exact rfl); (case aB => exact (by repeat (first | (with_reducible first | exact HB.out | apply lA | apply lN | apply lD | refine lS ?_ GE101.out) | exact HB.out))); (case aF => exact (fun k_ hk => Kd.fresh' (Kd.R_lt (by (with_reducible repeat (first | apply Ra | apply Rn | apply Rd)); exact HO_5.out)) k_ hk)); (case aO => exact (by (with_reducible repeat (first | apply Ra | apply Rn | apply Rd)); exact HO_9.out)); (case aS => exact (below_size (by repeat (first | (with_reducible first | exact HB.out | apply lA | apply lN | apply lD | refine lS ?_ GE101.out) | exact HB.out)))); (case aL => have := LMc26.out; omega); intro v117 w27 ho hb hg hat; rw [← Ny116.out] at ho; replace HO_5 := am (Kd.R_after (ok := (fun _ => True)) (by (with_reducible repeat (first | apply Ra | apply Rn | apply Rd)); exact Kd.R_mono HO_5.out (fun _ hk => ⟨trivial, hk⟩)) hg hat); replace HO_30 := am (Kd.R_over' (by (with_reducible repeat (first | apply Ra | apply Rn | apply Rd)); exact HO_30.out) (Kd.R_typed (by (with_reducible repeat (first | apply Ra | apply Rn | apply Rd)); exact HO_9.out)) (by decide) hg); replace BK101 := am (blk_grown (g := gb101) (o := .cells #[.slice A0_0 l0_0.length c0_0, .slice A0_1 l0_1.length c0_1] 50 (0, 0)) (by (with_reducible repeat (first | refine bN ?_ _ | refine bD ?_ | refine bA ?_ _)); exact BK101.out) hg (Kd.R_ne HO_9.out BK101.out (by decide))); replace HB := am (hb); have HO118 := am (ho); clear HO_9; clear ho hb hg hat))
           go_roundg k1
           case measure => have := HK1.out; omega
           case rel => exact ⟨(y116), (wrap64 (x32_1 + 1)), (by first | rfl | (simp; done) | (simp [*]; done)), H', ⟨by have := HK1.out; omega⟩, ⟨by (with_reducible repeat (first | apply Ra | apply Rn | apply Rd)); exact Kd.R_mono HO_5.out (fun _ hk => hk.2)⟩, ⟨by (with_reducible repeat (first | apply Ra | apply Rn | apply Rd)); exact HO118.out⟩, ⟨by (with_reducible repeat (first | apply Ra | apply Rn | apply Rd)); exact HO_30.out⟩, ⟨by (with_reducible repeat (first | refine bN ?_ _ | refine bD ?_ | refine bA ?_ _)); exact BK101.out⟩, ⟨by repeat (first | (with_reducible first | exact HB.out | apply lA | apply lN | apply lD | refine lS ?_ GE101.out) | exact HB.out)⟩⟩
          ·rw [if_neg c26] at H
           exact absurd H (by simp)
         ·rw [if_neg c25] at H
          exact absurd H (by simp)
        ·rw [if_neg c24] at H
         exact absurd H (by simp)
       ·rw [if_neg c23] at H
        exact absurd H (by simp)
      ·rw [if_neg c22] at H
       exact absurd H (by simp)
     ·rw [if_neg c21] at H
      have c21b0 : decide (x32_1 < (t111.length : Int)) = false := decide_eq_false c21
      clear c21
      simp only [Option.some.injEq, Prod.mk.injEq] at H
      obtain ⟨rfl, rfl, rfl⟩ := H
      go_wp2
      go_ret3
      exact ⟨_, _, by first | rfl | (simp [errW_none, errW_some] <;> rfl) | (simp [*, errW_none, errW_some] <;> rfl), by first | exact Kd.R_nil _ _ _ _ _ | exact Kd.N_nil _ _ _ _ _ | exact Kd.V_nil _ _ _ _ _ | exact Kd.Q_nil _ _ _ _ _ | exact Kd.S_nil _ _ _ _ _, by (with_reducible repeat (first | apply Ra | apply Rn | apply Rd)); exact Kd.R_mono HO_9.out (fun _ hk => trivial), by repeat (first | (with_reducible first | exact HB.out | apply lA | apply lN | apply lD | refine lS ?_ GE101.out) | exact HB.out)⟩
  ·rw [if_neg c10] at H
   have c10b0 : decide (0 < (t111.length : Int)) = false := decide_eq_false c10
   have c10b1 : decide (0 < t111.length) = false := decide_eq_false (by omega)
   clear c10
   replace H := Option.bind_eq_some_iff.mp H
   obtain ⟨t119, A280, H⟩ := H
   replace H : (some (t119, ([] : List ByteArray), 0)) = some (r1, r2, r3) := H
   have A28 := am A280
   clear A280
   simp only [Option.some.injEq, Prod.mk.injEq] at H
   obtain ⟨rfl, rfl, rfl⟩ := H
   go_enter Try.func29, Try.ntmps29
   go_wp2_with (first | ((with_reducible refine gate_dst (N := 1) rfl ?_); refine box_event ?hg (N := 1) ?hd (cs := #[.slice A0_0 l0_0.length c0_0, .slice A0_1 l0_1.length c0_1]) (t := 50) ?hr ?_; (case hd => rfl); (case hg => rfl); (case hr => first | (go_simp; done) | (go_simp; rfl)); intro gb101 hg w29 hbox hb; have BK101 := am (hbox); have GW101 := am ((by rw [hg]; exact (below_size (by repeat (first | (with_reducible first | exact HB.out | apply lA | apply lN | apply lD) | exact HB.out))) : w.heap.size ≤ gb101)); have GE101 := am ((by rw [hg]; exact (below_size (by repeat (first | (with_reducible first | exact HB.out | apply lA | apply lN | apply lD) | exact HB.out))) : w.heap.size ≤ gb101)); replace HB := am (below_step (by repeat (first | (with_reducible first | exact HB.out | apply lA | apply lN | apply lD) | exact HB.out)) hb); clear hb hbox hg; have hcz30_0 : w29.cell? ⟨gb101, 0, none⟩ = some (.slice A0_0 l0_0.length c0_0) := (blk_cell BK101.out 0).trans rfl; have hcz30_1 : w29.cell? ⟨gb101, 1, none⟩ = some (.slice A0_1 l0_1.length c0_1) := (blk_cell BK101.out 1).trans rfl; have hfz30_0 := blk_frozen BK101.out 0; have hfz30_1 := blk_frozen BK101.out 1) | ((with_reducible refine gate_callee (f := 32) rfl ?_); refine goesL_ (some 13) rfl rfl Try.func32 (by kernel_rfl) rfl #[.agg #[.slice A0_0 l0_0.length c0_0, .slice A0_1 l0_1.length c0_1]] rfl (by (try simp only [List.map_toArray, List.map_cons, List.map_nil]); first | done | rfl | (simp only [List.length_drop, List.length_take]; rfl)) ?_; (with_reducible refine (strata_Preds.calls k _ _ l0_0 _ _ l0_1 t102 _ ?side1 ?side2 ?side3 ?side4 A2.out).mono ?_); (case side1 => repeat (first | exact (Kd.C_below HR0_0.out HB.out) | (with_reducible refine Kd.C_alloc ?_ _) | (with_reducible refine Kd.C_drewN ?_ _) | (with_reducible refine Kd.C_drew ?_))); (case side2 => exact HC0_0.out); (case side3 => repeat (first | exact (Kd.C_below HR0_1.out HB.out) | (with_reducible refine Kd.C_alloc ?_ _) | (with_reducible refine Kd.C_drewN ?_ _) | (with_reducible refine Kd.C_drew ?_))); (case side4 => exact HC0_1.out); rintro e w31 ⟨v103, rfl, ho0, hb⟩; refine ⟨_, rfl, ?_⟩; have HO104 := am (Kd.R_lower ho0 (below_size (by repeat (first | (with_reducible first | exact HB.out | apply lA | apply lN | apply lD | refine lS ?_ GE101.out) | exact HB.out)))); replace BK101 := am (blk_below (g := gb101) (o := .cells #[.slice A0_0 l0_0.length c0_0, .slice A0_1 l0_1.length c0_1] 50 (0, 0)) (by (with_reducible repeat (first | refine bN ?_ _ | refine bD ?_ | refine bA ?_ _)); exact BK101.out) hb); replace HB := am (below_step (by repeat (first | (with_reducible first | exact HB.out | apply lA | apply lN | apply lD | refine lS ?_ GE101.out) | exact HB.out)) hb); (try clear hb); (try clear hb2); (try clear hk); (try clear hi); (try clear ho0); obtain ⟨Ao32, co32, eo32⟩ := Kd.R_slice HO104.out; subst eo32; have hcz33_0 : w31.cell? ⟨gb101, 0, none⟩ = some (.slice A0_0 l0_0.length c0_0) := (blk_cell BK101.out 0).trans rfl; have hcz33_1 : w31.cell? ⟨gb101, 1, none⟩ = some (.slice A0_1 l0_1.length c0_1) := (blk_cell BK101.out 1).trans rfl; have hfz33_0 := blk_frozen BK101.out 0; have hfz33_1 := blk_frozen BK101.out 1) | ((with_reducible refine gate_callee (f := 52) rfl ?_); refine goesL_ (some 20) rfl rfl Try.func52 (by kernel_rfl) rfl #[.agg #[.slice A0_0 l0_0.length c0_0, .slice A0_1 l0_1.length c0_1], .slice Ao32 t102.length co32] rfl (by (try simp only [List.map_toArray, List.map_cons, List.map_nil]); first | done | rfl | (simp only [List.length_drop, List.length_take]; rfl)) ?_; (with_reducible refine (strata_edges.calls k _ _ l0_0 _ _ l0_1 _ _ t102 t105 t108 _ ?side1 ?side2 ?side3 ?side4 ?side5 ?side6 A8.out).mono ?_); (case side1 => repeat (first | exact (Kd.C_below HR0_0.out HB.out) | (with_reducible refine Kd.C_alloc ?_ _) | (with_reducible refine Kd.C_drewN ?_ _) | (with_reducible refine Kd.C_drew ?_))); (case side2 => exact HC0_0.out); (case side3 => repeat (first | exact (Kd.C_below HR0_1.out HB.out) | (with_reducible refine Kd.C_alloc ?_ _) | (with_reducible refine Kd.C_drewN ?_ _) | (with_reducible refine Kd.C_drew ?_))); (case side4 => exact HC0_1.out); (case side5 => repeat (first | exact (Kd.R_reads' HO104.out).2.2 | (with_reducible refine Kd.C_alloc ?_ _) | (with_reducible refine Kd.C_drewN ?_ _) | (with_reducible refine Kd.C_drew ?_))); (case side6 => exact (Kd.R_reads' HO104.out).2.1); rintro e w34 ⟨v106, v109, rfl, ho0, ho1, hb⟩; refine ⟨_, rfl, ?_⟩; replace HO104 := am (Kd.R_below (by (with_reducible repeat (first | apply Ra | apply Rn | apply Rd)); exact HO104.out) hb); have HO107 := am (Kd.R_lower ho0 (below_size (by repeat (first | (with_reducible first | exact HB.out | apply lA | apply lN | apply lD | refine lS ?_ GE101.out) | exact HB.out)))); have HO110 := am (Kd.R_lower ho1 (below_size (by repeat (first | (with_reducible first | exact HB.out | apply lA | apply lN | apply lD | refine lS ?_ GE101.out) | exact HB.out)))); replace BK101 := am (blk_below (g := gb101) (o := .cells #[.slice A0_0 l0_0.length c0_0, .slice A0_1 l0_1.length c0_1] 50 (0, 0)) (by (with_reducible repeat (first | refine bN ?_ _ | refine bD ?_ | refine bA ?_ _)); exact BK101.out) hb); replace HB := am (below_step (by repeat (first | (with_reducible first | exact HB.out | apply lA | apply lN | apply lD | refine lS ?_ GE101.out) | exact HB.out)) hb); (try clear hb); (try clear hb2); (try clear hk); (try clear hi); (try clear ho0); (try clear ho1); obtain ⟨Ao35, co35, eo35⟩ := Kd.R_slice HO107.out; subst eo35; obtain ⟨Ao36, co36, eo36⟩ := Kd.R_slice HO110.out; subst eo36) | ((with_reducible refine gate_callee (f := 53) rfl ?_); refine goesL_ (some 27) rfl rfl Try.func53 (by kernel_rfl) rfl #[.int .i64 (t102.length : Int), .slice Ao35 t105.length co35, .slice Ao36 t108.length co36] rfl (by (try simp only [List.map_toArray, List.map_cons, List.map_nil]); first | done | rfl | (simp only [List.length_drop, List.length_take]; rfl)) ?_; (with_reducible refine (strata_ring.calls k (t102.length : Int) _ _ t105 _ _ t108 t111 _ ?side1 ?side2 ?side3 ?side4 A9.out).mono ?_); (case side1 => repeat (first | exact (Kd.R_reads' HO107.out).2.2 | (with_reducible refine Kd.C_alloc ?_ _) | (with_reducible refine Kd.C_drewN ?_ _) | (with_reducible refine Kd.C_drew ?_))); (case side2 => exact (Kd.R_reads' HO107.out).2.1); (case side3 => repeat (first | exact (Kd.R_reads' HO110.out).2.2 | (with_reducible refine Kd.C_alloc ?_ _) | (with_reducible refine Kd.C_drewN ?_ _) | (with_reducible refine Kd.C_drew ?_))); (case side4 => exact (Kd.R_reads' HO110.out).2.1); rintro e w37 ⟨v112, rfl, ho0, hb, hnil_⟩; refine ⟨_, rfl, ?_⟩; replace HO104 := am (Kd.R_below (by (with_reducible repeat (first | apply Ra | apply Rn | apply Rd)); exact HO104.out) hb); replace HO107 := am (Kd.R_below (by (with_reducible repeat (first | apply Ra | apply Rn | apply Rd)); exact HO107.out) hb); replace HO110 := am (Kd.R_below (by (with_reducible repeat (first | apply Ra | apply Rn | apply Rd)); exact HO110.out) hb); have HO113 := am (Kd.R_lower ho0 (below_size (by repeat (first | (with_reducible first | exact HB.out | apply lA | apply lN | apply lD | refine lS ?_ GE101.out) | exact HB.out)))); replace BK101 := am (blk_below (g := gb101) (o := .cells #[.slice A0_0 l0_0.length c0_0, .slice A0_1 l0_1.length c0_1] 50 (0, 0)) (by (with_reducible repeat (first | refine bN ?_ _ | refine bD ?_ | refine bA ?_ _)); exact BK101.out) hb); replace HB := am (below_step (by repeat (first | (with_reducible first | exact HB.out | apply lA | apply lN | apply lD | refine lS ?_ GE101.out) | exact HB.out)) hb); (try clear hb); (try clear hb2); (try clear hk); (try clear hi); (try clear ho0); (have en_ := hnil_ (nil_of c10b0); subst en_); (try clear hnil_)) | ((with_reducible refine gate_callee (f := 54) rfl ?_); refine goesL_ (some 49) rfl rfl Try.func54 (by kernel_rfl) rfl #[.int .i64 (t102.length : Int), .slice Ao35 t105.length co35, .slice Ao36 t108.length co36] rfl (by (try simp only [List.map_toArray, List.map_cons, List.map_nil]); first | done | rfl | (simp only [List.length_drop, List.length_take]; rfl)) ?_; (with_reducible refine (strata_levels.calls k (t102.length : Int) _ _ t105 _ _ t108 t119 _ ?side1 ?side2 ?side3 ?side4 A28.out).mono ?_); (case side1 => repeat (first | exact (Kd.R_reads' HO107.out).2.2 | (with_reducible refine Kd.C_alloc ?_ _) | (with_reducible refine Kd.C_drewN ?_ _) | (with_reducible refine Kd.C_drew ?_))); (case side2 => exact (Kd.R_reads' HO107.out).2.1); (case side3 => repeat (first | exact (Kd.R_reads' HO110.out).2.2 | (with_reducible refine Kd.C_alloc ?_ _) | (with_reducible refine Kd.C_drewN ?_ _) | (with_reducible refine Kd.C_drew ?_))); (case side4 => exact (Kd.R_reads' HO110.out).2.1); rintro e w38 ⟨v120, rfl, ho0, hb⟩; refine ⟨_, rfl, ?_⟩; replace HO104 := am (Kd.R_below (by (with_reducible repeat (first | apply Ra | apply Rn | apply Rd)); exact HO104.out) hb); replace HO107 := am (Kd.R_below (by (with_reducible repeat (first | apply Ra | apply Rn | apply Rd)); exact HO107.out) hb); replace HO110 := am (Kd.R_below (by (with_reducible repeat (first | apply Ra | apply Rn | apply Rd)); exact HO110.out) hb); have HO121 := am (Kd.R_lower (Kd.R_new' ho0 (Kd.R_lt (by (with_reducible repeat (first | apply Ra | apply Rn | apply Rd)); exact HO113.out))) (below_size (by repeat (first | (with_reducible first | exact HB.out | apply lA | apply lN | apply lD | refine lS ?_ GE101.out) | exact HB.out)))); replace HO113 := am (Kd.R_elder' (by (with_reducible repeat (first | apply Ra | apply Rn | apply Rd)); exact HO113.out) (Kd.R_base ho0) hb); replace BK101 := am (blk_below (g := gb101) (o := .cells #[.slice A0_0 l0_0.length c0_0, .slice A0_1 l0_1.length c0_1] 50 (0, 0)) (by (with_reducible repeat (first | refine bN ?_ _ | refine bD ?_ | refine bA ?_ _)); exact BK101.out) hb); replace HB := am (below_step (by repeat (first | (with_reducible first | exact HB.out | apply lA | apply lN | apply lD | refine lS ?_ GE101.out) | exact HB.out)) hb); (try clear hb); (try clear hb2); (try clear hk); (try clear hi); (try clear ho0)))
   go_ret3
   exact ⟨_, _, by first | rfl | (simp [errW_none, errW_some] <;> rfl) | (simp [*, errW_none, errW_some] <;> rfl), by (with_reducible repeat (first | apply Ra | apply Rn | apply Rd)); exact Kd.R_mono HO121.out (fun _ hk => trivial), by first | exact Kd.R_nil _ _ _ _ _ | exact Kd.N_nil _ _ _ _ _ | exact Kd.V_nil _ _ _ _ _ | exact Kd.Q_nil _ _ _ _ _ | exact Kd.S_nil _ _ _ _ _, by repeat (first | (with_reducible first | exact HB.out | apply lA | apply lN | apply lD | refine lS ?_ GE101.out) | exact HB.out)⟩
end Go.Proofs.Ytmlhnjonmjmhdaa.H

/- RowStrataLeastUpto of the seat's law StrataLeastUpto: the law holds, under the statement's own conditions. -/
import Derived.Test.YtmlhnjonmjmhdaaNXStrataLeastUpto
import Derived.Test.YtmlhnjonmjmhdaaNXStrataLeastUpto1
import Derived.Test.YtmlhnjonmjmhdaaNW
set_option linter.unusedVariables false
set_option linter.unusedSimpArgs false
set_option linter.unusedSectionVars false
namespace Go.Proofs.Ytmlhnjonmjmhdaa.H
open Go.RowKit Go.Proofs.YtmlhnjonmjmhdaaW.PrintWords Go.Proofs.YtmlhnjonmjmhdaaW.PrintLast Go.Proofs.YtmlhnjonmjmhdaaW.PrintMore
attribute [local go_sem] max2_int min2_int max_two min_two max_three min_three max_four min_four
mutual
def strata_levels.l0 : Nat → List (IPair) → List (IPair) → List Int → List (List Int) → Int → Int → Option (List Int)
 | 0, _, _, _, _, _, _ => none
 | k + 1, x1, x2, x7, x21, x22, x23 => if x23 < x22 then (if 0 ≤ x23 then (if x23 < (x21.length : Int) then (strata_levels.l1 k x1 x2 x7 (rd_L19 x21 x23) 0 x21 x22 x23 x1 (x1.length : Int) 0) else (none)) else (none)) else (some x7)
def strata_levels.l1 : Nat → List (IPair) → List (IPair) → List Int → List Int → Int → List (List Int) → Int → Int → List (IPair) → Int → Int → Option (List Int)
 | 0, _, _, _, _, _, _, _, _, _, _, _ => none
 | k + 1, x1, x2, x7, x9, x10, x21, x22, x23, x27, x28, x29 => if x29 < x28 then (if 0 ≤ x29 then (if x29 < (x27.length : Int) then ((slices_Contains_int_int.f k x9 ((rd_T27 x27 x29).fst)).bind fun t110 => (if t110 = true then ((slices_Contains_int_int.f k x9 ((rd_T27 x27 x29).snd)).bind fun t111 => (if t111 = true then (strata_levels.l1 k x1 x2 x7 x9 x10 x21 x22 x23 x27 x28 (wrap64 (x29 + 1))) else (if 0 ≤ ((rd_T27 x27 x29).snd) then (if ((rd_T27 x27 x29).snd) < (x7.length : Int) then (strata_levels.l1 k x1 x2 x7 x9 (mx x10 (rd x7 ((rd_T27 x27 x29).snd))) x21 x22 x23 x27 x28 (wrap64 (x29 + 1))) else (none)) else (none)))) else (strata_levels.l1 k x1 x2 x7 x9 x10 x21 x22 x23 x27 x28 (wrap64 (x29 + 1))))) else (none)) else (none)) else (strata_levels.l2 k x1 x2 x7 x9 x10 x21 x22 x23 x2 (x2.length : Int) 0)
def strata_levels.l2 : Nat → List (IPair) → List (IPair) → List Int → List Int → Int → List (List Int) → Int → Int → List (IPair) → Int → Int → Option (List Int)
 | 0, _, _, _, _, _, _, _, _, _, _, _ => none
 | k + 1, x1, x2, x7, x9, x10, x21, x22, x23, x52, x53, x54 => if x54 < x53 then (if 0 ≤ x54 then (if x54 < (x52.length : Int) then ((slices_Contains_int_int.f k x9 ((rd_T27 x52 x54).fst)).bind fun t115 => (if t115 = true then (if 0 ≤ ((rd_T27 x52 x54).snd) then (if ((rd_T27 x52 x54).snd) < (x7.length : Int) then (strata_levels.l2 k x1 x2 x7 x9 (mx x10 (wrap64 ((rd x7 ((rd_T27 x52 x54).snd)) + 1))) x21 x22 x23 x52 x53 (wrap64 (x54 + 1))) else (none)) else (none)) else (strata_levels.l2 k x1 x2 x7 x9 x10 x21 x22 x23 x52 x53 (wrap64 (x54 + 1))))) else (none)) else (none)) else (strata_levels.l3 k x1 x2 x7 x10 x21 x22 x23 x9 (x9.length : Int) 0)
def strata_levels.l3 : Nat → List (IPair) → List (IPair) → List Int → Int → List (List Int) → Int → Int → List Int → Int → Int → Option (List Int)
 | 0, _, _, _, _, _, _, _, _, _, _ => none
 | k + 1, x1, x2, x7, x10, x21, x22, x23, x71, x72, x73 => if x73 < x72 then (if 0 ≤ x73 then (if x73 < (x71.length : Int) then (if 0 ≤ (rd x71 x73) then (if (rd x71 x73) < (x7.length : Int) then (strata_levels.l3 k x1 x2 (x7.set ((rd x71 x73) : Int).toNat x10) x10 x21 x22 x23 x71 x72 (wrap64 (x73 + 1))) else (none)) else (none)) else (none)) else (none)) else (strata_levels.l0 k x1 x2 x7 x21 x22 (wrap64 (x23 + 1)))
end
def strata_levels.f (k : Nat) (a0 : Int) (l1 : List (IPair)) (l2 : List (IPair)) : Option (List Int) := if 0 ≤ a0 then (if (a0 : Int).toNat ≤ 35184372088832 then ((graph_Parts.f k a0 l1).bind fun t104 => (strata_levels.l0 k l1 l2 (List.replicate (a0 : Int).toNat 0) t104 (t104.length : Int) 0)) else (none)) else (none)
theorem strata_levels.mono_l : ∀ k, (∀ y0 y1 y2 y3 y4 y5, LeO (strata_levels.l0 k y0 y1 y2 y3 y4 y5) (strata_levels.l0 (k + 1) y0 y1 y2 y3 y4 y5)) ∧ (∀ y0 y1 y2 y3 y4 y5 y6 y7 y8 y9 y10, LeO (strata_levels.l1 k y0 y1 y2 y3 y4 y5 y6 y7 y8 y9 y10) (strata_levels.l1 (k + 1) y0 y1 y2 y3 y4 y5 y6 y7 y8 y9 y10)) ∧ (∀ y0 y1 y2 y3 y4 y5 y6 y7 y8 y9 y10, LeO (strata_levels.l2 k y0 y1 y2 y3 y4 y5 y6 y7 y8 y9 y10) (strata_levels.l2 (k + 1) y0 y1 y2 y3 y4 y5 y6 y7 y8 y9 y10)) ∧ (∀ y0 y1 y2 y3 y4 y5 y6 y7 y8 y9, LeO (strata_levels.l3 k y0 y1 y2 y3 y4 y5 y6 y7 y8 y9) (strata_levels.l3 (k + 1) y0 y1 y2 y3 y4 y5 y6 y7 y8 y9))
 | 0 => ⟨fun _ _ _ _ _ _ r h => by simp [strata_levels.l0] at h, fun _ _ _ _ _ _ _ _ _ _ _ r h => by simp [strata_levels.l1] at h, fun _ _ _ _ _ _ _ _ _ _ _ r h => by simp [strata_levels.l2] at h, fun _ _ _ _ _ _ _ _ _ _ r h => by simp [strata_levels.l3] at h⟩
 | k + 1 => by
  obtain ⟨ih0, ih1, ih2, ih3⟩ := strata_levels.mono_l k
  refine ⟨?_, ?_, ?_, ?_⟩
  ·intro y0 y1 y2 y3 y4 y5
   unfold strata_levels.l0
   repeat' first
   | (with_reducible exact ih0 _ _ _ _ _ _)
   | (with_reducible exact ih1 _ _ _ _ _ _ _ _ _ _ _)
   | (with_reducible exact ih2 _ _ _ _ _ _ _ _ _ _ _)
   | (with_reducible exact ih3 _ _ _ _ _ _ _ _ _ _)
   | (with_reducible exact graph_Parts.mono _ _ _)
   | (with_reducible exact slices_Contains_int_int.mono _ _ _)
   | (with_reducible exact LeO.refl _)
   | (with_reducible exact LeO.none _)
   | (with_reducible refine LeO.ite ?_ ?_)
   | (with_reducible refine LeO.bind ?_ (fun _ => ?_))
   | exact ih0 _ _ _ _ _ _
   | exact ih1 _ _ _ _ _ _ _ _ _ _ _
   | exact ih2 _ _ _ _ _ _ _ _ _ _ _
   | exact ih3 _ _ _ _ _ _ _ _ _ _
   | exact graph_Parts.mono _ _ _
   | exact slices_Contains_int_int.mono _ _ _
   | exact LeO.none _
   | refine LeO.ite ?_ ?_
   | refine LeO.bind ?_ (fun _ => ?_)
  ·intro y0 y1 y2 y3 y4 y5 y6 y7 y8 y9 y10
   unfold strata_levels.l1
   repeat' first
   | (with_reducible exact ih0 _ _ _ _ _ _)
   | (with_reducible exact ih1 _ _ _ _ _ _ _ _ _ _ _)
   | (with_reducible exact ih2 _ _ _ _ _ _ _ _ _ _ _)
   | (with_reducible exact ih3 _ _ _ _ _ _ _ _ _ _)
   | (with_reducible exact graph_Parts.mono _ _ _)
   | (with_reducible exact slices_Contains_int_int.mono _ _ _)
   | (with_reducible exact LeO.refl _)
   | (with_reducible exact LeO.none _)
   | (with_reducible refine LeO.ite ?_ ?_)
   | (with_reducible refine LeO.bind ?_ (fun _ => ?_))
   | exact ih0 _ _ _ _ _ _
   | exact ih1 _ _ _ _ _ _ _ _ _ _ _
   | exact ih2 _ _ _ _ _ _ _ _ _ _ _
   | exact ih3 _ _ _ _ _ _ _ _ _ _
   | exact graph_Parts.mono _ _ _
   | exact slices_Contains_int_int.mono _ _ _
   | exact LeO.none _
   | refine LeO.ite ?_ ?_
   | refine LeO.bind ?_ (fun _ => ?_)
  ·intro y0 y1 y2 y3 y4 y5 y6 y7 y8 y9 y10
   unfold strata_levels.l2
   repeat' first
   | (with_reducible exact ih0 _ _ _ _ _ _)
   | (with_reducible exact ih1 _ _ _ _ _ _ _ _ _ _ _)
   | (with_reducible exact ih2 _ _ _ _ _ _ _ _ _ _ _)
   | (with_reducible exact ih3 _ _ _ _ _ _ _ _ _ _)
   | (with_reducible exact graph_Parts.mono _ _ _)
   | (with_reducible exact slices_Contains_int_int.mono _ _ _)
   | (with_reducible exact LeO.refl _)
   | (with_reducible exact LeO.none _)
   | (with_reducible refine LeO.ite ?_ ?_)
   | (with_reducible refine LeO.bind ?_ (fun _ => ?_))
   | exact ih0 _ _ _ _ _ _
   | exact ih1 _ _ _ _ _ _ _ _ _ _ _
   | exact ih2 _ _ _ _ _ _ _ _ _ _ _
   | exact ih3 _ _ _ _ _ _ _ _ _ _
   | exact graph_Parts.mono _ _ _
   | exact slices_Contains_int_int.mono _ _ _
   | exact LeO.none _
   | refine LeO.ite ?_ ?_
   | refine LeO.bind ?_ (fun _ => ?_)
  ·intro y0 y1 y2 y3 y4 y5 y6 y7 y8 y9
   unfold strata_levels.l3
   repeat' first
   | (with_reducible exact ih0 _ _ _ _ _ _)
   | (with_reducible exact ih1 _ _ _ _ _ _ _ _ _ _ _)
   | (with_reducible exact ih2 _ _ _ _ _ _ _ _ _ _ _)
   | (with_reducible exact ih3 _ _ _ _ _ _ _ _ _ _)
   | (with_reducible exact graph_Parts.mono _ _ _)
   | (with_reducible exact slices_Contains_int_int.mono _ _ _)
   | (with_reducible exact LeO.refl _)
   | (with_reducible exact LeO.none _)
   | (with_reducible refine LeO.ite ?_ ?_)
   | (with_reducible refine LeO.bind ?_ (fun _ => ?_))
   | exact ih0 _ _ _ _ _ _
   | exact ih1 _ _ _ _ _ _ _ _ _ _ _
   | exact ih2 _ _ _ _ _ _ _ _ _ _ _
   | exact ih3 _ _ _ _ _ _ _ _ _ _
   | exact graph_Parts.mono _ _ _
   | exact slices_Contains_int_int.mono _ _ _
   | exact LeO.none _
   | refine LeO.ite ?_ ?_
   | refine LeO.bind ?_ (fun _ => ?_)
theorem strata_levels.mono : ∀ a0 a1 a2 k, LeO (strata_levels.f k a0 a1 a2) (strata_levels.f (k + 1) a0 a1 a2) := by
 intro a0 a1 a2 k
 obtain ⟨ih0, ih1, ih2, ih3⟩ := strata_levels.mono_l k
 unfold strata_levels.f
 repeat' first
   | (with_reducible exact ih0 _ _ _ _ _ _)
   | (with_reducible exact ih1 _ _ _ _ _ _ _ _ _ _ _)
   | (with_reducible exact ih2 _ _ _ _ _ _ _ _ _ _ _)
   | (with_reducible exact ih3 _ _ _ _ _ _ _ _ _ _)
   | (with_reducible exact graph_Parts.mono _ _ _)
   | (with_reducible exact slices_Contains_int_int.mono _ _ _)
   | (with_reducible exact LeO.refl _)
   | (with_reducible exact LeO.none _)
   | (with_reducible refine LeO.ite ?_ ?_)
   | (with_reducible refine LeO.bind ?_ (fun _ => ?_))
   | exact ih0 _ _ _ _ _ _
   | exact ih1 _ _ _ _ _ _ _ _ _ _ _
   | exact ih2 _ _ _ _ _ _ _ _ _ _ _
   | exact ih3 _ _ _ _ _ _ _ _ _ _
   | exact graph_Parts.mono _ _ _
   | exact slices_Contains_int_int.mono _ _ _
   | exact LeO.none _
   | refine LeO.ite ?_ ?_
   | refine LeO.bind ?_ (fun _ => ?_)
set_option maxHeartbeats 8000000 in
set_option maxRecDepth 100000 in
theorem strata_levels.calls (k : Nat) (a0 : Int) (A1 : Option Addr) (c1 : Nat) (l1 : List (IPair)) (A2 : Option Addr) (c2 : Nat) (l2 : List (IPair)) (r : List Int) (w : World) (hr1 : Kd.C k27 w A1 l1.length l1) (hc1 : l1.length ≤ c1) (hr2 : Kd.C k27 w A2 l2.length l2) (hc2 : l2.length ≤ c2) (h : strata_levels.f k a0 l1 l2 = some r) :
  Calls Try.prog 54 #[.int .i64 a0, .slice A1 l1.length c1, .slice A2 l2.length c2] w fun e w' => ∃ v0_ : Value, e = .returned (v0_) ∧ Kd.R (Kd.int .i64) 3 w' w.heap.size (fun _ => True) v0_ r ∧ Below w.heap.size w w' := by
 have hu27 := Try.underlying27
 have HR1 := am hr1
 have HC1 := am hc1
 clear hr1 hc1
 have HR2 := am hr2
 have HC2 := am hc2
 clear hr2 hc2
 have HB := am (Below.refl w.heap.size w)
 have H : (if 0 ≤ a0 then (if (a0 : Int).toNat ≤ 35184372088832 then ((graph_Parts.f k a0 l1).bind fun t104 => (strata_levels.l0 k l1 l2 (List.replicate (a0 : Int).toNat 0) t104 (t104.length : Int) 0)) else (none)) else (none)) = some r := h
 clear h
 by_cases c4 : 0 ≤ a0
 ·rw [if_pos c4] at H
  have c4b0 := eq_true c4
  have c4b1 : decide (0 ≤ a0) = true := decide_eq_true c4
  clear c4
  by_cases c5 : (a0 : Int).toNat ≤ 35184372088832
  ·rw [if_pos c5] at H
   have c5b0 := eq_true c5
   have c5b1 : decide ((a0 : Int).toNat ≤ 35184372088832) = true := decide_eq_true c5
   clear c5
   obtain ⟨y101, hy101⟩ : ∃ y_ : List Int, y_ = (List.replicate (a0 : Int).toNat 0) := ⟨_, rfl⟩
   replace H : ((graph_Parts.f k a0 l1).bind fun t104 => (strata_levels.l0 k l1 l2 y101 t104 (t104.length : Int) 0)) = some r := by first | (rw [hy101]; with_reducible exact H) | (have H2_ := (Option.bind_some _ _).symm.trans H; rw [hy101]; with_reducible exact H2_) | (have H2_ := (Option.bind_some _ _).symm.trans H; with_reducible exact H2_) | with_reducible exact H | (rw [hy101]; exact H) | exact H
   have Ny101 := am hy101
   clear hy101
   replace H := Option.bind_eq_some_iff.mp H
   obtain ⟨t104, A60, H⟩ := H
   replace H : (strata_levels.l0 k l1 l2 y101 t104 (t104.length : Int) 0) = some r := H
   have A6 := am A60
   clear A60
   have H' := am H
   clear H
   go_enter Try.func54, Try.ntmps54
   go_wp2_with (first | ((with_reducible refine gate_dst (N := 18) rfl ?_); refine Kd.R_make (Kd.int .i64) _ 3 rfl (N := 18) rfl 35 _ _ rfl a0 rfl rfl Try.underlying35 (.int .i64 0) 8 info3 rfl (by decide) (by omega) 0 (ok := fun _ => True) (okp := fun _ => True) rfl (fun _ hk => hk) trivial (dt_) (Nat.le_trans (Nat.mul_le_mul_right _ (dt_ : a0.toNat ≤ 35184372088832)) (by omega)) (Below.refl _ _) (Nat.le_refl _) ?_; intro v102 w7 ho8 hb hg_ hnew_; clear hg_ hnew_; (first | rw [← Ny101.out] at ho8 | (simp only [Int.reduceToNat] at ho8; rw [← Ny101.out] at ho8)); have HO103 := am (Kd.R_lower ho8 (below_size (pL HB.out))); replace HB := am (bs_ HB.out hb); clear hb ho8) | ((with_reducible refine gate_callee (f := 18) rfl ?_); refine goesL_ (some 21) rfl rfl Try.func18 (by kernel_rfl) rfl #[.int .i64 a0, .slice A1 l1.length c1] rfl (by (try simp only [List.map_toArray, List.map_cons, List.map_nil]); first | done | rfl | (simp only [List.length_drop, List.length_take]; rfl)) ?_; (with_reducible refine (graph_Parts.calls k a0 _ _ l1 t104 _ ?side1 ?side2 A6.out).mono ?_); (case side1 => repeat (first | exact (Kd.C_below HR1.out HB.out) | (with_reducible refine Kd.C_alloc ?_ _) | (with_reducible refine Kd.C_drewN ?_ _) | (with_reducible refine Kd.C_drew ?_))); (case side2 => exact HC1.out); rintro e w9 ⟨v105, rfl, ho0, hb⟩; refine ⟨_, rfl, ?_⟩; have HO106 := am (Kd.S_lower (Kd.S_new' ho0 (Kd.R_lt (pR HO103.out))) (below_size (pL HB.out))); replace HO103 := am (Rb_ HO103.out hb); replace HB := am (bs_ HB.out hb); (try clear hb); (try clear hb2); (try clear hk); (try clear hi); (try clear ho0); obtain ⟨Ao10, co10, eo10⟩ := Kd.S_slice HO106.out; subst eo10))
   go_loopg [23] k (fun kq v23 w' => ∃ (x7_1 : List Int) (x23_1 : Int), v23 = .int .i64 x23_1 ∧ Aside0 (strata_levels.l0 kq l1 l2 x7_1 t104 (t104.length : Int) x23_1 = some r) ∧ Aside0 (kq ≤ k) ∧ Aside0 (Kd.R (Kd.int .i64) 3 w' w.heap.size (fun _ => True) v102 x7_1) ∧ Aside0 (Kd.S (Kd.slice 3 (Kd.int .i64)) 35 w' w.heap.size (fun k_ => some k_ ≠ (v102 : Value).ownBlock) (.slice Ao10 t104.length co10) t104) ∧ Aside0 (Below w.heap.size w w'))
   case atStart => exact ⟨(y101), (0), rs_, H', ⟨Nat.le_refl _⟩, ⟨pR HO103.out⟩, ⟨by (with_reducible repeat (first | apply Kd.S_alloc | apply Kd.S_drewN | apply Kd.S_drew)); exact Kd.S_mono HO106.out (fun _ hk => hk.2)⟩, ⟨pL HB.out⟩⟩
   case round =>
    clear H'
    try clear c1
    try clear c2
    try clear p2
    try clear c4
    try clear c4b0
    try clear c4b1
    try clear c5
    try clear c5b0
    try clear c5b1
    obtain ⟨x7_1, x23_1, rfl, HA, HK1, HO_7, HO_21, HB⟩ := hrel
    cases gk with
    | zero => exact absurd HA.out (by simp [strata_levels.l0])
    | succ k1 =>
     have H := HA.out
     clear HA
     simp only [strata_levels.l0] at H
     by_cases c11 : x23_1 < (t104.length : Int)
     ·rw [if_pos c11] at H
      have c11b0 : decide (x23_1 < (t104.length : Int)) = true := decide_eq_true c11
      clear c11
      by_cases c12 : 0 ≤ x23_1
      ·rw [if_pos c12] at H
       have c12b0 : decide (0 ≤ x23_1) = true := decide_eq_true c12
       clear c12
       by_cases c13 : x23_1 < (t104.length : Int)
       ·rw [if_pos c13] at H
        have c13b0 : decide (x23_1 < (t104.length : Int)) = true := decide_eq_true c13
        clear c13
        have H' := am H
        clear H
        have p107 : 0 ≤ (x23_1 : Int) := dt_
        have q107 : x23_1 < (t104.length : Int) := dt_
        obtain ⟨ad107, A107_0, c107_0, e107, hx107_0, hl107_0, hi107_0⟩ := at_L19 (Kd.S_reads' HO_21.out).2.2 x23_1 p107 q107
        cases e107
        obtain ⟨ce107, hce107, hMe107, hcc107⟩ := Kd.S_get HO_21.out [] x23_1 p107 (by first | exact q107 | exact dt_ | (have e_ := (Kd.S_reads' HO_21.out).1; omega))
        obtain ⟨ve107_0, rfl, ge107_0⟩ := hMe107
        have hv107_0 := hcc107 0 _ rfl
        rw [Nat.add_zero, show ((Kd.slice 3 (Kd.int .i64))).sz = 1 from rfl, Nat.mul_one] at hv107_0
        replace hv107_0 := Option.some.inj (hv107_0.symm.trans hx107_0)
        rw [hv107_0] at ge107_0
        have HL107_0 := am (show Kd.R (Kd.int .i64) 3 _ _ _ _ (rd_L19 t104 x23_1) from ge107_0)
        replace HL107_0 := am (Kd.R_mono HL107_0.out (fun _ h_ => h_.1))
        clear hv107_0 ge107_0
        clear hcc107 hce107
        have HR107_0 := am hi107_0
        have HC107_0 := am hl107_0
        clear hi107_0 hl107_0
        replace p107 := eq_true p107
        replace q107 := eq_true q107
        go_wp2
        go_loopg [10, 29] k1 (fun kq v10 v29 w' => ∃ (x10_2 : Int) (x29_2 : Int), v10 = .int .i64 x10_2 ∧ v29 = .int .i64 x29_2 ∧ Aside0 (strata_levels.l1 kq l1 l2 x7_1 (rd_L19 t104 x23_1) x10_2 t104 (t104.length : Int) x23_1 l1 (l1.length : Int) x29_2 = some r) ∧ Aside0 (kq ≤ k1) ∧ Aside0 (Kd.R (Kd.int .i64) 3 w' w.heap.size (fun _ => True) v102 x7_1) ∧ Aside0 (Kd.S (Kd.slice 3 (Kd.int .i64)) 35 w' w.heap.size (fun k_ => some k_ ≠ (v102 : Value).ownBlock) (.slice (some ad107) t104.length co10) t104) ∧ Aside0 (Kd.R (Kd.int .i64) 3 w' w.heap.size (fun k_ => some k_ ≠ (v102 : Value).ownBlock) (.slice A107_0 (rd_L19 t104 x23_1).length c107_0) (rd_L19 t104 x23_1)) ∧ Aside0 (Below w.heap.size w w'))
        case atStart => exact ⟨(0), (0), rs_, rs_, H', ⟨Nat.le_refl _⟩, ⟨pR HO_7.out⟩, ⟨by (with_reducible repeat (first | apply Kd.S_alloc | apply Kd.S_drewN | apply Kd.S_drew)); exact HO_21.out⟩, ⟨by (with_reducible repeat (first | apply Kd.R_alloc | apply Kd.R_drewN | apply Kd.R_drew)); exact HL107_0.out⟩, ⟨pL HB.out⟩⟩
        case round =>
         clear H'
         try clear c1
         try clear p1
         try clear q1
         try clear hx1
         try clear c2
         try clear p2
         try clear c4
         try clear c4b0
         try clear c4b1
         try clear c5
         try clear c5b0
         try clear c5b1
         try clear c10
         try clear p10
         try clear q10
         try clear hx10
         try clear c11
         try clear c11b0
         try clear c12
         try clear c12b0
         try clear c13
         try clear c13b0
         try clear hx107_0
         try clear p107
         try clear p2
         try clear q107
         obtain ⟨x10_2, x29_2, rfl, rfl, HA, HK2, HO_7, HO_21, HL107_0, HB⟩ := hrel
         have HR107_0 := am (Kd.R_reads' HL107_0.out).2.2
         cases gk with
         | zero => exact absurd HA.out (by simp [strata_levels.l1])
         | succ k2 =>
          have H := HA.out
          clear HA
          simp only [strata_levels.l1] at H
          by_cases c14 : x29_2 < (l1.length : Int)
          ·rw [if_pos c14] at H
           have c14b0 : decide (x29_2 < (l1.length : Int)) = true := decide_eq_true c14
           clear c14
           by_cases c15 : 0 ≤ x29_2
           ·rw [if_pos c15] at H
            have c15b0 : decide (0 ≤ x29_2) = true := decide_eq_true c15
            clear c15
            by_cases c16 : x29_2 < (l1.length : Int)
            ·rw [if_pos c16] at H
             have c16b0 : decide (x29_2 < (l1.length : Int)) = true := decide_eq_true c16
             clear c16
             replace H := Option.bind_eq_some_iff.mp H
             obtain ⟨t110, A170, H⟩ := H
             replace H : (if t110 = true then ((slices_Contains_int_int.f k2 (rd_L19 t104 x23_1) ((rd_T27 l1 x29_2).snd)).bind fun t111 => (if t111 = true then (strata_levels.l1 k2 l1 l2 x7_1 (rd_L19 t104 x23_1) x10_2 t104 (t104.length : Int) x23_1 l1 (l1.length : Int) (wrap64 (x29_2 + 1))) else (if 0 ≤ ((rd_T27 l1 x29_2).snd) then (if ((rd_T27 l1 x29_2).snd) < (x7_1.length : Int) then (strata_levels.l1 k2 l1 l2 x7_1 (rd_L19 t104 x23_1) (mx x10_2 (rd x7_1 ((rd_T27 l1 x29_2).snd))) t104 (t104.length : Int) x23_1 l1 (l1.length : Int) (wrap64 (x29_2 + 1))) else (none)) else (none)))) else (strata_levels.l1 k2 l1 l2 x7_1 (rd_L19 t104 x23_1) x10_2 t104 (t104.length : Int) x23_1 l1 (l1.length : Int) (wrap64 (x29_2 + 1)))) = some r := H
             have A17 := am A170
             clear A170
             by_cases c18 : t110 = true
             ·subst c18
              have H1 : ((slices_Contains_int_int.f k2 (rd_L19 t104 x23_1) ((rd_T27 l1 x29_2).snd)).bind fun t111 => (if t111 = true then (strata_levels.l1 k2 l1 l2 x7_1 (rd_L19 t104 x23_1) x10_2 t104 (t104.length : Int) x23_1 l1 (l1.length : Int) (wrap64 (x29_2 + 1))) else (if 0 ≤ ((rd_T27 l1 x29_2).snd) then (if ((rd_T27 l1 x29_2).snd) < (x7_1.length : Int) then (strata_levels.l1 k2 l1 l2 x7_1 (rd_L19 t104 x23_1) (mx x10_2 (rd x7_1 ((rd_T27 l1 x29_2).snd))) t104 (t104.length : Int) x23_1 l1 (l1.length : Int) (wrap64 (x29_2 + 1))) else (none)) else (none)))) = some r := by rw [if_pos rfl] at H; exact H
              clear H
              have H := H1
              clear H1
              replace H := Option.bind_eq_some_iff.mp H
              obtain ⟨t111, A190, H⟩ := H
              replace H : (if t111 = true then (strata_levels.l1 k2 l1 l2 x7_1 (rd_L19 t104 x23_1) x10_2 t104 (t104.length : Int) x23_1 l1 (l1.length : Int) (wrap64 (x29_2 + 1))) else (if 0 ≤ ((rd_T27 l1 x29_2).snd) then (if ((rd_T27 l1 x29_2).snd) < (x7_1.length : Int) then (strata_levels.l1 k2 l1 l2 x7_1 (rd_L19 t104 x23_1) (mx x10_2 (rd x7_1 ((rd_T27 l1 x29_2).snd))) t104 (t104.length : Int) x23_1 l1 (l1.length : Int) (wrap64 (x29_2 + 1))) else (none)) else (none))) = some r := H
              have A19 := am A190
              clear A190
              by_cases c20 : t111 = true
              ·subst c20
               have H1 : (strata_levels.l1 k2 l1 l2 x7_1 (rd_L19 t104 x23_1) x10_2 t104 (t104.length : Int) x23_1 l1 (l1.length : Int) (wrap64 (x29_2 + 1))) = some r := by rw [if_pos rfl] at H; exact H
               clear H
               have H := H1
               clear H1
               have H' := am H
               clear H
               have p108 : 0 ≤ (x29_2 : Int) := dt_
               have q108 : x29_2 < (l1.length : Int) := dt_
               obtain ⟨ad108, e108, hx108_0, hx108_1⟩ := at_T27 HR1.out x29_2 p108 q108
               cases e108
               (first | (replace hx108_0 := up_ HB.out hx108_0) | skip)
               replace hx108_1 := up_ HB.out hx108_1
               replace p108 := eq_true p108
               replace q108 := eq_true q108
               go_wp2_with (first | ((with_reducible refine gate_dst (N := 12) rfl ?_); refine box_event ?hg (N := 12) ?hd (cs := #[.int .i64 0, .int .i64 0]) (t := 27) ?hr ?_; (case hd => rfl); (case hg => rfl); (case hr => first | (go_simp; done) | (go_simp; rfl)); intro gb109 hg w21 hbox hb; have HBr109 := am hb; have GEr109 := am (Nat.le_of_eq hg.symm); replace HO_7 := am (Rb_ HO_7.out hb); replace HO_21 := am (Kd.S_below (by (with_reducible repeat (first | apply Kd.S_alloc | apply Kd.S_drewN | apply Kd.S_drew)); exact HO_21.out) hb); replace HL107_0 := am (Kd.R_below (by (with_reducible repeat (first | apply Kd.R_alloc | apply Kd.R_drewN | apply Kd.R_drew)); exact HL107_0.out) hb); have BK109 := am (hbox); have GW109 := am (gw_ hg HB.out); have GE109 := GW109; replace HB := am (bs_ HB.out hb); clear hb hbox hg; obtain ⟨hcz22_0, hcz22_1, hfz22_0, hfz22_1⟩ := bc2 BK109.out) | ((with_reducible refine gate_callee (f := 65) rfl ?_); refine goesL_ (some 36) rfl rfl Try.func65 (by kernel_rfl) rfl #[.slice A107_0 (rd_L19 t104 x23_1).length c107_0, .int .i64 ((rd_T27 l1 x29_2).fst)] rfl (by (try simp only [List.map_toArray, List.map_cons, List.map_nil]); first | done | rfl | (simp only [List.length_drop, List.length_take]; rfl)) ?_; (with_reducible refine (slices_Contains_int_int.calls k2 _ _ (rd_L19 t104 x23_1) ((rd_T27 l1 x29_2).fst) true _ ?side1 ?side2 A17.out).mono ?_); (case side1 => exact Kd.C_below HR107_0.out (by (with_reducible repeat (first | apply lA | apply lN | apply lD | refine lS ?_ GEr109.out)); exact below_step (by first | exact Below.refl _ _ | (repeat (first | apply lA | apply lN | apply lD); exact Below.refl _ _)) HBr109.out)); (case side2 => exact HC107_0.out); rintro e w' ⟨rfl, ⟨nd, rfl⟩⟩; refine ⟨_, rfl, ?_⟩) | (go_at_call 65; (with_reducible refine (slices_Contains_int_int.calls k2 _ _ (rd_L19 t104 x23_1) ((rd_T27 l1 x29_2).snd) true _ ?side1 ?side2 A19.out).mono ?_); (case side1 => exact Kd.C_below HR107_0.out (by (with_reducible repeat (first | apply lA | apply lN | apply lD | refine lS ?_ GEr109.out)); exact below_step (by first | exact Below.refl _ _ | (repeat (first | apply lA | apply lN | apply lD); exact Below.refl _ _)) HBr109.out)); (case side2 => exact HC107_0.out); rintro e w' ⟨rfl, ⟨nd, rfl⟩⟩))
               go_roundg k2
               case measure => have := HK1.out; have := HK2.out; omega
               case rel => exact ⟨(x10_2), (wrap64 (x29_2 + 1)), rs_, rs_, H', ⟨by have := HK1.out; have := HK2.out; omega⟩, ⟨by (with_reducible repeat (first | apply Ra | apply Rn | apply Rd)); exact Kd.R_mono (Rf (Rf (Kd.R_types HO_7.out BK109.out (by decide)))) (fun _ hk => trivial)⟩, ⟨by (with_reducible repeat (first | apply Kd.S_alloc | apply Kd.S_drewN | apply Kd.S_drew)); exact Kd.S_mono (Kd.S_far (p := ⟨gb109, 1, none⟩) (Kd.S_far (p := ⟨gb109, 0, none⟩) (Kd.S_types HO_21.out BK109.out (by decide)) (fun _ hk => hk.2) _) (fun _ hk => hk.2) _) (fun _ hk => hk.1)⟩, ⟨by (with_reducible repeat (first | apply Kd.R_alloc | apply Kd.R_drewN | apply Kd.R_drew)); exact Kd.R_mono (Rf (Rf (Kd.R_types HL107_0.out BK109.out (by decide)))) (fun _ hk => hk.1)⟩, ⟨pL HB.out⟩⟩
              ·replace c20 := Bool.eq_false_iff.mpr c20
               subst c20
               have H1 : (if 0 ≤ ((rd_T27 l1 x29_2).snd) then (if ((rd_T27 l1 x29_2).snd) < (x7_1.length : Int) then (strata_levels.l1 k2 l1 l2 x7_1 (rd_L19 t104 x23_1) (mx x10_2 (rd x7_1 ((rd_T27 l1 x29_2).snd))) t104 (t104.length : Int) x23_1 l1 (l1.length : Int) (wrap64 (x29_2 + 1))) else (none)) else (none)) = some r := by rw [if_neg (show ¬ (false = true) by decide)] at H; exact H
               clear H
               have H := H1
               clear H1
               by_cases c23 : 0 ≤ ((rd_T27 l1 x29_2).snd)
               ·rw [if_pos c23] at H
                have c23b0 : decide (0 ≤ ((rd_T27 l1 x29_2).snd)) = true := decide_eq_true c23
                clear c23
                by_cases c24 : ((rd_T27 l1 x29_2).snd) < (x7_1.length : Int)
                ·rw [if_pos c24] at H
                 have c24b0 : decide (((rd_T27 l1 x29_2).snd) < (x7_1.length : Int)) = true := decide_eq_true c24
                 clear c24
                 obtain ⟨ji25, hji25⟩ : ∃ j_ : Int, (mx x10_2 (rd x7_1 ((rd_T27 l1 x29_2).snd))) = j_ := ⟨_, rfl⟩
                 replace H : (strata_levels.l1 k2 l1 l2 x7_1 (rd_L19 t104 x23_1) ji25 t104 (t104.length : Int) x23_1 l1 (l1.length : Int) (wrap64 (x29_2 + 1))) = some r := by first | (rw [hji25] at H; exact H) | (simp only [hji25] at H ⊢; exact H)
                 (try rw [hji25] at A17)
                 (try rw [hji25] at A19)
                 have hji25_ : (if x10_2 < (rd x7_1 ((rd_T27 l1 x29_2).snd)) then (rd x7_1 ((rd_T27 l1 x29_2).snd)) else x10_2) = ji25 := hji25
                 have H' := am H
                 clear H
                 have p108 : 0 ≤ (x29_2 : Int) := dt_
                 have q108 : x29_2 < (l1.length : Int) := dt_
                 obtain ⟨ad108, e108, hx108_0, hx108_1⟩ := at_T27 HR1.out x29_2 p108 q108
                 cases e108
                 (first | (replace hx108_0 := up_ HB.out hx108_0) | skip)
                 replace hx108_1 := up_ HB.out hx108_1
                 replace p108 := eq_true p108
                 replace q108 := eq_true q108
                 go_wp2_with (first | ((with_reducible refine gate_dst (N := 12) rfl ?_); refine box_event ?hg (N := 12) ?hd (cs := #[.int .i64 0, .int .i64 0]) (t := 27) ?hr ?_; (case hd => rfl); (case hg => rfl); (case hr => first | (go_simp; done) | (go_simp; rfl)); intro gb109 hg w26 hbox hb; have HBr109 := am hb; have GEr109 := am (Nat.le_of_eq hg.symm); replace HO_7 := am (Rb_ HO_7.out hb); replace HO_21 := am (Kd.S_below (by (with_reducible repeat (first | apply Kd.S_alloc | apply Kd.S_drewN | apply Kd.S_drew)); exact HO_21.out) hb); replace HL107_0 := am (Kd.R_below (by (with_reducible repeat (first | apply Kd.R_alloc | apply Kd.R_drewN | apply Kd.R_drew)); exact HL107_0.out) hb); have BK109 := am (hbox); have GW109 := am (gw_ hg HB.out); have GE109 := GW109; replace HB := am (bs_ HB.out hb); clear hb hbox hg; obtain ⟨hcz27_0, hcz27_1, hfz27_0, hfz27_1⟩ := bc2 BK109.out) | ((with_reducible refine gate_callee (f := 65) rfl ?_); refine goesL_ (some 36) rfl rfl Try.func65 (by kernel_rfl) rfl #[.slice A107_0 (rd_L19 t104 x23_1).length c107_0, .int .i64 ((rd_T27 l1 x29_2).fst)] rfl (by (try simp only [List.map_toArray, List.map_cons, List.map_nil]); first | done | rfl | (simp only [List.length_drop, List.length_take]; rfl)) ?_; (with_reducible refine (slices_Contains_int_int.calls k2 _ _ (rd_L19 t104 x23_1) ((rd_T27 l1 x29_2).fst) true _ ?side1 ?side2 A17.out).mono ?_); (case side1 => exact Kd.C_below HR107_0.out (by (with_reducible repeat (first | apply lA | apply lN | apply lD | refine lS ?_ GEr109.out)); exact below_step (by first | exact Below.refl _ _ | (repeat (first | apply lA | apply lN | apply lD); exact Below.refl _ _)) HBr109.out)); (case side2 => exact HC107_0.out); rintro e w' ⟨rfl, ⟨nd, rfl⟩⟩; refine ⟨_, rfl, ?_⟩) | (go_at_call 65; (with_reducible refine (slices_Contains_int_int.calls k2 _ _ (rd_L19 t104 x23_1) ((rd_T27 l1 x29_2).snd) false _ ?side1 ?side2 A19.out).mono ?_); (case side1 => exact Kd.C_below HR107_0.out (by (with_reducible repeat (first | apply lA | apply lN | apply lD | refine lS ?_ GEr109.out)); exact below_step (by first | exact Below.refl _ _ | (repeat (first | apply lA | apply lN | apply lD); exact Below.refl _ _)) HBr109.out)); (case side2 => exact HC107_0.out); rintro e w' ⟨rfl, ⟨nd, rfl⟩⟩; obtain ⟨Ao28, co28, eo28⟩ := Kd.R_slice HO_7.out; subst eo28; have p112 : 0 ≤ (((rd_T27 l1 x29_2).snd) : Int) := dt_; have q112 : ((rd_T27 l1 x29_2).snd) < (x7_1.length : Int) := dt_; obtain ⟨ad112, e112, hx112_0⟩ := Kd.at_int (Kd.R_reads' HO_7.out).2.2 ((rd_T27 l1 x29_2).snd) p112 q112; cases e112; have hn112_0 : ad112.block ≠ gb109 := Kd.own_blk (Kd.R_ne HO_7.out BK109.out (by decide)); have hn112_1 : ad112.block ≠ gb109 := Kd.own_blk (Kd.R_ne HO_7.out BK109.out (by decide)); replace hx112_0 := (cell_far (p := ⟨gb109, 0, none⟩) (by first | (rw [add_block]; exact hn112_0) | (show (Addr.add _ _).block ≠ _; rw [add_block]; exact hn112_0) | exact hn112_0) (.int .i64 ((rd_T27 l1 x29_2).fst))).trans hx112_0; replace hx112_0 := (cell_far (p := ⟨gb109, 1, none⟩) (by first | (rw [add_block]; exact hn112_1) | (show (Addr.add _ _).block ≠ _; rw [add_block]; exact hn112_1) | exact hn112_1) (.int .i64 ((rd_T27 l1 x29_2).snd))).trans hx112_0; clear hn112_0; clear hn112_1; replace p112 := eq_true p112; replace q112 := eq_true q112))
                 go_roundg k2
                 case measure => have := HK1.out; have := HK2.out; omega
                 case rel => exact ⟨(ji25), (wrap64 (x29_2 + 1)), (by first | rfl | (simp; done) | (simp only [← hji25] <;> (first | rfl | simp)) | (simp [*]; done)), rs_, H', ⟨by have := HK1.out; have := HK2.out; omega⟩, ⟨by (with_reducible repeat (first | apply Ra | apply Rn | apply Rd)); exact Kd.R_mono (Rf (Rf (Kd.R_types HO_7.out BK109.out (by decide)))) (fun _ hk => trivial)⟩, ⟨by (with_reducible repeat (first | apply Kd.S_alloc | apply Kd.S_drewN | apply Kd.S_drew)); exact Kd.S_mono (Kd.S_far (p := ⟨gb109, 1, none⟩) (Kd.S_far (p := ⟨gb109, 0, none⟩) (Kd.S_types HO_21.out BK109.out (by decide)) (fun _ hk => hk.2) _) (fun _ hk => hk.2) _) (fun _ hk => hk.1)⟩, ⟨by (with_reducible repeat (first | apply Kd.R_alloc | apply Kd.R_drewN | apply Kd.R_drew)); exact Kd.R_mono (Rf (Rf (Kd.R_types HL107_0.out BK109.out (by decide)))) (fun _ hk => hk.1)⟩, ⟨pL HB.out⟩⟩
                ·rw [if_neg c24] at H
                 exact absurd H (by simp)
               ·rw [if_neg c23] at H
                exact absurd H (by simp)
             ·replace c18 := Bool.eq_false_iff.mpr c18
              subst c18
              have H1 : (strata_levels.l1 k2 l1 l2 x7_1 (rd_L19 t104 x23_1) x10_2 t104 (t104.length : Int) x23_1 l1 (l1.length : Int) (wrap64 (x29_2 + 1))) = some r := by rw [if_neg (show ¬ (false = true) by decide)] at H; exact H
              clear H
              have H := H1
              clear H1
              have H' := am H
              clear H
              have p108 : 0 ≤ (x29_2 : Int) := dt_
              have q108 : x29_2 < (l1.length : Int) := dt_
              obtain ⟨ad108, e108, hx108_0, hx108_1⟩ := at_T27 HR1.out x29_2 p108 q108
              cases e108
              (first | (replace hx108_0 := up_ HB.out hx108_0) | skip)
              replace hx108_1 := up_ HB.out hx108_1
              replace p108 := eq_true p108
              replace q108 := eq_true q108
              go_wp2_with (first | ((with_reducible refine gate_dst (N := 12) rfl ?_); refine box_event ?hg (N := 12) ?hd (cs := #[.int .i64 0, .int .i64 0]) (t := 27) ?hr ?_; (case hd => rfl); (case hg => rfl); (case hr => first | (go_simp; done) | (go_simp; rfl)); intro gb109 hg w29 hbox hb; have HBr109 := am hb; have GEr109 := am (Nat.le_of_eq hg.symm); replace HO_7 := am (Rb_ HO_7.out hb); replace HO_21 := am (Kd.S_below (by (with_reducible repeat (first | apply Kd.S_alloc | apply Kd.S_drewN | apply Kd.S_drew)); exact HO_21.out) hb); replace HL107_0 := am (Kd.R_below (by (with_reducible repeat (first | apply Kd.R_alloc | apply Kd.R_drewN | apply Kd.R_drew)); exact HL107_0.out) hb); have BK109 := am (hbox); have GW109 := am (gw_ hg HB.out); have GE109 := GW109; replace HB := am (bs_ HB.out hb); clear hb hbox hg; obtain ⟨hcz30_0, hcz30_1, hfz30_0, hfz30_1⟩ := bc2 BK109.out) | ((with_reducible refine gate_callee (f := 65) rfl ?_); refine goesL_ (some 36) rfl rfl Try.func65 (by kernel_rfl) rfl #[.slice A107_0 (rd_L19 t104 x23_1).length c107_0, .int .i64 ((rd_T27 l1 x29_2).fst)] rfl (by (try simp only [List.map_toArray, List.map_cons, List.map_nil]); first | done | rfl | (simp only [List.length_drop, List.length_take]; rfl)) ?_; (with_reducible refine (slices_Contains_int_int.calls k2 _ _ (rd_L19 t104 x23_1) ((rd_T27 l1 x29_2).fst) false _ ?side1 ?side2 A17.out).mono ?_); (case side1 => exact Kd.C_below HR107_0.out (by (with_reducible repeat (first | apply lA | apply lN | apply lD | refine lS ?_ GEr109.out)); exact below_step (by first | exact Below.refl _ _ | (repeat (first | apply lA | apply lN | apply lD); exact Below.refl _ _)) HBr109.out)); (case side2 => exact HC107_0.out); rintro e w' ⟨rfl, ⟨nd, rfl⟩⟩; refine ⟨_, rfl, ?_⟩))
              go_roundg k2
              case measure => have := HK1.out; have := HK2.out; omega
              case rel => exact ⟨(x10_2), (wrap64 (x29_2 + 1)), rs_, rs_, H', ⟨by have := HK1.out; have := HK2.out; omega⟩, ⟨by (with_reducible repeat (first | apply Ra | apply Rn | apply Rd)); exact Kd.R_mono (Rf (Rf (Kd.R_types HO_7.out BK109.out (by decide)))) (fun _ hk => trivial)⟩, ⟨by (with_reducible repeat (first | apply Kd.S_alloc | apply Kd.S_drewN | apply Kd.S_drew)); exact Kd.S_mono (Kd.S_far (p := ⟨gb109, 1, none⟩) (Kd.S_far (p := ⟨gb109, 0, none⟩) (Kd.S_types HO_21.out BK109.out (by decide)) (fun _ hk => hk.2) _) (fun _ hk => hk.2) _) (fun _ hk => hk.1)⟩, ⟨by (with_reducible repeat (first | apply Kd.R_alloc | apply Kd.R_drewN | apply Kd.R_drew)); exact Kd.R_mono (Rf (Rf (Kd.R_types HL107_0.out BK109.out (by decide)))) (fun _ hk => hk.1)⟩, ⟨pL HB.out⟩⟩
            ·rw [if_neg c16] at H
             exact absurd H (by simp)
           ·rw [if_neg c15] at H
            exact absurd H (by simp)
          ·rw [if_neg c14] at H
           have c14b0 : decide (x29_2 < (l1.length : Int)) = false := decide_eq_false c14
           clear c14
           have H' := am H
           clear H
           go_wp2
           go_loopg [10, 54] k2 (fun kq v10 v54 w' => ∃ (x10_3 : Int) (x54_3 : Int), v10 = .int .i64 x10_3 ∧ v54 = .int .i64 x54_3 ∧ Aside0 (strata_levels.l2 kq l1 l2 x7_1 (rd_L19 t104 x23_1) x10_3 t104 (t104.length : Int) x23_1 l2 (l2.length : Int) x54_3 = some r) ∧ Aside0 (kq ≤ k2) ∧ Aside0 (Kd.R (Kd.int .i64) 3 w' w.heap.size (fun _ => True) v102 x7_1) ∧ Aside0 (Kd.S (Kd.slice 3 (Kd.int .i64)) 35 w' w.heap.size (fun k_ => some k_ ≠ (v102 : Value).ownBlock) (.slice (some ad107) t104.length co10) t104) ∧ Aside0 (Kd.R (Kd.int .i64) 3 w' w.heap.size (fun k_ => some k_ ≠ (v102 : Value).ownBlock) (.slice A107_0 (rd_L19 t104 x23_1).length c107_0) (rd_L19 t104 x23_1)) ∧ Aside0 (Below w.heap.size w w'))
           case atStart => exact ⟨(x10_2), (0), rs_, rs_, H', ⟨Nat.le_refl _⟩, ⟨pR HO_7.out⟩, ⟨by (with_reducible repeat (first | apply Kd.S_alloc | apply Kd.S_drewN | apply Kd.S_drew)); exact HO_21.out⟩, ⟨by (with_reducible repeat (first | apply Kd.R_alloc | apply Kd.R_drewN | apply Kd.R_drew)); exact HL107_0.out⟩, ⟨pL HB.out⟩⟩
           case round =>
            clear H'
            try clear c1
            try clear p1
            try clear q1
            try clear hx1
            try clear c2
            try clear p2
            try clear c4
            try clear c4b0
            try clear c4b1
            try clear c5
            try clear c5b0
            try clear c5b1
            try clear c6
            try clear p6
            try clear c10
            try clear p10
            try clear q10
            try clear hx10
            try clear c11
            try clear c11b0
            try clear p11
            try clear q11
            try clear hx11
            try clear c12
            try clear c12b0
            try clear c13
            try clear c13b0
            try clear c14
            try clear c14b0
            try clear c15
            try clear c15b0
            try clear c16
            try clear c16b0
            try clear c18
            try clear c20
            try clear c23
            try clear c23b0
            try clear c24
            try clear c24b0
            try clear hcz22_0
            try clear hcz22_1
            try clear hcz27_0
            try clear hcz27_1
            try clear hcz30_0
            try clear hcz30_1
            try clear hfz22_0
            try clear hfz22_1
            try clear hfz27_0
            try clear hfz27_1
            try clear hfz30_0
            try clear hfz30_1
            try clear hx107_0
            try clear hx108_0
            try clear hx108_1
            try clear hx112_0
            try clear p1
            try clear p10
            try clear p107
            try clear p108
            try clear p112
            try clear p2
            try clear q1
            try clear q10
            try clear q107
            try clear q108
            try clear q112
            obtain ⟨x10_3, x54_3, rfl, rfl, HA, HK3, HO_7, HO_21, HL107_0, HB⟩ := hrel
            have HR107_0 := am (Kd.R_reads' HL107_0.out).2.2
            cases gk with
            | zero => exact absurd HA.out (by simp [strata_levels.l2])
            | succ k3 =>
             have H := HA.out
             clear HA
             simp only [strata_levels.l2] at H
             by_cases c31 : x54_3 < (l2.length : Int)
             ·rw [if_pos c31] at H
              have c31b0 : decide (x54_3 < (l2.length : Int)) = true := decide_eq_true c31
              clear c31
              by_cases c32 : 0 ≤ x54_3
              ·rw [if_pos c32] at H
               have c32b0 : decide (0 ≤ x54_3) = true := decide_eq_true c32
               clear c32
               by_cases c33 : x54_3 < (l2.length : Int)
               ·rw [if_pos c33] at H
                have c33b0 : decide (x54_3 < (l2.length : Int)) = true := decide_eq_true c33
                clear c33
                replace H := Option.bind_eq_some_iff.mp H
                obtain ⟨t115, A340, H⟩ := H
                replace H : (if t115 = true then (if 0 ≤ ((rd_T27 l2 x54_3).snd) then (if ((rd_T27 l2 x54_3).snd) < (x7_1.length : Int) then (strata_levels.l2 k3 l1 l2 x7_1 (rd_L19 t104 x23_1) (mx x10_3 (wrap64 ((rd x7_1 ((rd_T27 l2 x54_3).snd)) + 1))) t104 (t104.length : Int) x23_1 l2 (l2.length : Int) (wrap64 (x54_3 + 1))) else (none)) else (none)) else (strata_levels.l2 k3 l1 l2 x7_1 (rd_L19 t104 x23_1) x10_3 t104 (t104.length : Int) x23_1 l2 (l2.length : Int) (wrap64 (x54_3 + 1)))) = some r := H
                have A34 := am A340
                clear A340
                by_cases c35 : t115 = true
                ·subst c35
                 have H1 : (if 0 ≤ ((rd_T27 l2 x54_3).snd) then (if ((rd_T27 l2 x54_3).snd) < (x7_1.length : Int) then (strata_levels.l2 k3 l1 l2 x7_1 (rd_L19 t104 x23_1) (mx x10_3 (wrap64 ((rd x7_1 ((rd_T27 l2 x54_3).snd)) + 1))) t104 (t104.length : Int) x23_1 l2 (l2.length : Int) (wrap64 (x54_3 + 1))) else (none)) else (none)) = some r := by rw [if_pos rfl] at H; exact H
                 clear H
                 have H := H1
                 clear H1
                 by_cases c36 : 0 ≤ ((rd_T27 l2 x54_3).snd)
                 ·rw [if_pos c36] at H
                  have c36b0 : decide (0 ≤ ((rd_T27 l2 x54_3).snd)) = true := decide_eq_true c36
                  clear c36
                  by_cases c37 : ((rd_T27 l2 x54_3).snd) < (x7_1.length : Int)
                  ·rw [if_pos c37] at H
                   have c37b0 : decide (((rd_T27 l2 x54_3).snd) < (x7_1.length : Int)) = true := decide_eq_true c37
                   clear c37
                   obtain ⟨ji38, hji38⟩ : ∃ j_ : Int, (mx x10_3 (wrap64 ((rd x7_1 ((rd_T27 l2 x54_3).snd)) + 1))) = j_ := ⟨_, rfl⟩
                   replace H : (strata_levels.l2 k3 l1 l2 x7_1 (rd_L19 t104 x23_1) ji38 t104 (t104.length : Int) x23_1 l2 (l2.length : Int) (wrap64 (x54_3 + 1))) = some r := by first | (rw [hji38] at H; exact H) | (simp only [hji38] at H ⊢; exact H)
                   (try rw [hji38] at A34)
                   have hji38_ : (if x10_3 < (wrap64 ((rd x7_1 ((rd_T27 l2 x54_3).snd)) + 1)) then (wrap64 ((rd x7_1 ((rd_T27 l2 x54_3).snd)) + 1)) else x10_3) = ji38 := hji38
                   have H' := am H
                   clear H
                   have p113 : 0 ≤ (x54_3 : Int) := dt_
                   have q113 : x54_3 < (l2.length : Int) := dt_
                   obtain ⟨ad113, e113, hx113_0, hx113_1⟩ := at_T27 HR2.out x54_3 p113 q113
                   cases e113
                   (first | (replace hx113_0 := up_ HB.out hx113_0) | skip)
                   replace hx113_1 := up_ HB.out hx113_1
                   replace p113 := eq_true p113
                   replace q113 := eq_true q113
                   go_wp2_with (first | ((with_reducible refine gate_dst (N := 14) rfl ?_); refine box_event ?hg (N := 14) ?hd (cs := #[.int .i64 0, .int .i64 0]) (t := 27) ?hr ?_; (case hd => rfl); (case hg => rfl); (case hr => first | (go_simp; done) | (go_simp; rfl)); intro gb114 hg w39 hbox hb; have HBr114 := am hb; have GEr114 := am (Nat.le_of_eq hg.symm); replace HO_7 := am (Rb_ HO_7.out hb); replace HO_21 := am (Kd.S_below (by (with_reducible repeat (first | apply Kd.S_alloc | apply Kd.S_drewN | apply Kd.S_drew)); exact HO_21.out) hb); replace HL107_0 := am (Kd.R_below (by (with_reducible repeat (first | apply Kd.R_alloc | apply Kd.R_drewN | apply Kd.R_drew)); exact HL107_0.out) hb); have BK114 := am (hbox); have GW114 := am (gw_ hg HB.out); have GE114 := GW114; replace HB := am (bs_ HB.out hb); clear hb hbox hg; obtain ⟨hcz40_0, hcz40_1, hfz40_0, hfz40_1⟩ := bc2 BK114.out) | ((with_reducible refine gate_callee (f := 65) rfl ?_); refine goesL_ (some 61) rfl rfl Try.func65 (by kernel_rfl) rfl #[.slice A107_0 (rd_L19 t104 x23_1).length c107_0, .int .i64 ((rd_T27 l2 x54_3).fst)] rfl (by (try simp only [List.map_toArray, List.map_cons, List.map_nil]); first | done | rfl | (simp only [List.length_drop, List.length_take]; rfl)) ?_; (with_reducible refine (slices_Contains_int_int.calls k3 _ _ (rd_L19 t104 x23_1) ((rd_T27 l2 x54_3).fst) true _ ?side1 ?side2 A34.out).mono ?_); (case side1 => exact Kd.C_below HR107_0.out (by (with_reducible repeat (first | apply lA | apply lN | apply lD | refine lS ?_ GEr114.out)); exact below_step (by first | exact Below.refl _ _ | (repeat (first | apply lA | apply lN | apply lD); exact Below.refl _ _)) HBr114.out)); (case side2 => exact HC107_0.out); rintro e w' ⟨rfl, ⟨nd, rfl⟩⟩; refine ⟨_, rfl, ?_⟩; obtain ⟨Ao41, co41, eo41⟩ := Kd.R_slice HO_7.out; subst eo41; have p116 : 0 ≤ (((rd_T27 l2 x54_3).snd) : Int) := dt_; have q116 : ((rd_T27 l2 x54_3).snd) < (x7_1.length : Int) := dt_; obtain ⟨ad116, e116, hx116_0⟩ := Kd.at_int (Kd.R_reads' HO_7.out).2.2 ((rd_T27 l2 x54_3).snd) p116 q116; cases e116; have hn116_0 : ad116.block ≠ gb114 := Kd.own_blk (Kd.R_ne HO_7.out BK114.out (by decide)); have hn116_1 : ad116.block ≠ gb114 := Kd.own_blk (Kd.R_ne HO_7.out BK114.out (by decide)); replace hx116_0 := (cell_far (p := ⟨gb114, 0, none⟩) (by first | (rw [add_block]; exact hn116_0) | (show (Addr.add _ _).block ≠ _; rw [add_block]; exact hn116_0) | exact hn116_0) (.int .i64 ((rd_T27 l2 x54_3).fst))).trans hx116_0; replace hx116_0 := (cell_far (p := ⟨gb114, 1, none⟩) (by first | (rw [add_block]; exact hn116_1) | (show (Addr.add _ _).block ≠ _; rw [add_block]; exact hn116_1) | exact hn116_1) (.int .i64 ((rd_T27 l2 x54_3).snd))).trans hx116_0; clear hn116_0; clear hn116_1; replace p116 := eq_true p116; replace q116 := eq_true q116))
                   go_roundg k3
                   case measure => have := HK1.out; have := HK2.out; have := HK3.out; omega
                   case rel => exact ⟨(ji38), (wrap64 (x54_3 + 1)), (by first | rfl | (simp; done) | (simp only [← hji38] <;> (first | rfl | simp)) | (simp [*]; done)), rs_, H', ⟨by have := HK1.out; have := HK2.out; have := HK3.out; omega⟩, ⟨by (with_reducible repeat (first | apply Ra | apply Rn | apply Rd)); exact Kd.R_mono (Rf (Rf (Kd.R_types HO_7.out BK114.out (by decide)))) (fun _ hk => trivial)⟩, ⟨by (with_reducible repeat (first | apply Kd.S_alloc | apply Kd.S_drewN | apply Kd.S_drew)); exact Kd.S_mono (Kd.S_far (p := ⟨gb114, 1, none⟩) (Kd.S_far (p := ⟨gb114, 0, none⟩) (Kd.S_types HO_21.out BK114.out (by decide)) (fun _ hk => hk.2) _) (fun _ hk => hk.2) _) (fun _ hk => hk.1)⟩, ⟨by (with_reducible repeat (first | apply Kd.R_alloc | apply Kd.R_drewN | apply Kd.R_drew)); exact Kd.R_mono (Rf (Rf (Kd.R_types HL107_0.out BK114.out (by decide)))) (fun _ hk => hk.1)⟩, ⟨pL HB.out⟩⟩
                  ·rw [if_neg c37] at H
                   exact absurd H (by simp)
                 ·rw [if_neg c36] at H
                  exact absurd H (by simp)
                ·replace c35 := Bool.eq_false_iff.mpr c35
                 subst c35
                 have H1 : (strata_levels.l2 k3 l1 l2 x7_1 (rd_L19 t104 x23_1) x10_3 t104 (t104.length : Int) x23_1 l2 (l2.length : Int) (wrap64 (x54_3 + 1))) = some r := by rw [if_neg (show ¬ (false = true) by decide)] at H; exact H
                 clear H
                 have H := H1
                 clear H1
                 have H' := am H
                 clear H
                 have p113 : 0 ≤ (x54_3 : Int) := dt_
                 have q113 : x54_3 < (l2.length : Int) := dt_
                 obtain ⟨ad113, e113, hx113_0, hx113_1⟩ := at_T27 HR2.out x54_3 p113 q113
                 cases e113
                 (first | (replace hx113_0 := up_ HB.out hx113_0) | skip)
                 replace hx113_1 := up_ HB.out hx113_1
                 replace p113 := eq_true p113
                 replace q113 := eq_true q113
                 go_wp2_with (first | ((with_reducible refine gate_dst (N := 14) rfl ?_); refine box_event ?hg (N := 14) ?hd (cs := #[.int .i64 0, .int .i64 0]) (t := 27) ?hr ?_; (case hd => rfl); (case hg => rfl); (case hr => first | (go_simp; done) | (go_simp; rfl)); intro gb114 hg w42 hbox hb; have HBr114 := am hb; have GEr114 := am (Nat.le_of_eq hg.symm); replace HO_7 := am (Rb_ HO_7.out hb); replace HO_21 := am (Kd.S_below (by (with_reducible repeat (first | apply Kd.S_alloc | apply Kd.S_drewN | apply Kd.S_drew)); exact HO_21.out) hb); replace HL107_0 := am (Kd.R_below (by (with_reducible repeat (first | apply Kd.R_alloc | apply Kd.R_drewN | apply Kd.R_drew)); exact HL107_0.out) hb); have BK114 := am (hbox); have GW114 := am (gw_ hg HB.out); have GE114 := GW114; replace HB := am (bs_ HB.out hb); clear hb hbox hg; obtain ⟨hcz43_0, hcz43_1, hfz43_0, hfz43_1⟩ := bc2 BK114.out) | ((with_reducible refine gate_callee (f := 65) rfl ?_); refine goesL_ (some 61) rfl rfl Try.func65 (by kernel_rfl) rfl #[.slice A107_0 (rd_L19 t104 x23_1).length c107_0, .int .i64 ((rd_T27 l2 x54_3).fst)] rfl (by (try simp only [List.map_toArray, List.map_cons, List.map_nil]); first | done | rfl | (simp only [List.length_drop, List.length_take]; rfl)) ?_; (with_reducible refine (slices_Contains_int_int.calls k3 _ _ (rd_L19 t104 x23_1) ((rd_T27 l2 x54_3).fst) false _ ?side1 ?side2 A34.out).mono ?_); (case side1 => exact Kd.C_below HR107_0.out (by (with_reducible repeat (first | apply lA | apply lN | apply lD | refine lS ?_ GEr114.out)); exact below_step (by first | exact Below.refl _ _ | (repeat (first | apply lA | apply lN | apply lD); exact Below.refl _ _)) HBr114.out)); (case side2 => exact HC107_0.out); rintro e w' ⟨rfl, ⟨nd, rfl⟩⟩; refine ⟨_, rfl, ?_⟩))
                 go_roundg k3
                 case measure => have := HK1.out; have := HK2.out; have := HK3.out; omega
                 case rel => exact ⟨(x10_3), (wrap64 (x54_3 + 1)), rs_, rs_, H', ⟨by have := HK1.out; have := HK2.out; have := HK3.out; omega⟩, ⟨by (with_reducible repeat (first | apply Ra | apply Rn | apply Rd)); exact Kd.R_mono (Rf (Rf (Kd.R_types HO_7.out BK114.out (by decide)))) (fun _ hk => trivial)⟩, ⟨by (with_reducible repeat (first | apply Kd.S_alloc | apply Kd.S_drewN | apply Kd.S_drew)); exact Kd.S_mono (Kd.S_far (p := ⟨gb114, 1, none⟩) (Kd.S_far (p := ⟨gb114, 0, none⟩) (Kd.S_types HO_21.out BK114.out (by decide)) (fun _ hk => hk.2) _) (fun _ hk => hk.2) _) (fun _ hk => hk.1)⟩, ⟨by (with_reducible repeat (first | apply Kd.R_alloc | apply Kd.R_drewN | apply Kd.R_drew)); exact Kd.R_mono (Rf (Rf (Kd.R_types HL107_0.out BK114.out (by decide)))) (fun _ hk => hk.1)⟩, ⟨pL HB.out⟩⟩
               ·rw [if_neg c33] at H
                exact absurd H (by simp)
              ·rw [if_neg c32] at H
               exact absurd H (by simp)
             ·rw [if_neg c31] at H
              have c31b0 : decide (x54_3 < (l2.length : Int)) = false := decide_eq_false c31
              clear c31
              have H' := am H
              clear H
              go_wp2
              go_loopg [73] k3 (fun kq v73 w' => ∃ (x7_4 : List Int) (x73_4 : Int), v73 = .int .i64 x73_4 ∧ Aside0 (strata_levels.l3 kq l1 l2 x7_4 x10_3 t104 (t104.length : Int) x23_1 (rd_L19 t104 x23_1) ((rd_L19 t104 x23_1).length : Int) x73_4 = some r) ∧ Aside0 (kq ≤ k3) ∧ Aside0 (Kd.R (Kd.int .i64) 3 w' w.heap.size (fun _ => True) v102 x7_4) ∧ Aside0 (Kd.S (Kd.slice 3 (Kd.int .i64)) 35 w' w.heap.size (fun k_ => some k_ ≠ (v102 : Value).ownBlock) (.slice (some ad107) t104.length co10) t104) ∧ Aside0 (Kd.R (Kd.int .i64) 3 w' w.heap.size (fun k_ => some k_ ≠ (v102 : Value).ownBlock) (.slice A107_0 (rd_L19 t104 x23_1).length c107_0) (rd_L19 t104 x23_1)) ∧ Aside0 (Below w.heap.size w w'))
              case atStart => exact ⟨(x7_1), (0), rs_, H', ⟨Nat.le_refl _⟩, ⟨pR HO_7.out⟩, ⟨by (with_reducible repeat (first | apply Kd.S_alloc | apply Kd.S_drewN | apply Kd.S_drew)); exact HO_21.out⟩, ⟨by (with_reducible repeat (first | apply Kd.R_alloc | apply Kd.R_drewN | apply Kd.R_drew)); exact HL107_0.out⟩, ⟨pL HB.out⟩⟩
              case round =>
               clear H'
               try clear c1
               try clear p1
               try clear q1
               try clear hx1
               try clear c2
               try clear p2
               try clear c3
               try clear c4
               try clear c4b0
               try clear c4b1
               try clear c5
               try clear c5b0
               try clear c5b1
               try clear c6
               try clear p6
               try clear c10
               try clear p10
               try clear q10
               try clear hx10
               try clear c11
               try clear c11b0
               try clear p11
               try clear q11
               try clear hx11
               try clear c12
               try clear c12b0
               try clear c13
               try clear c13b0
               try clear c14
               try clear c14b0
               try clear c15
               try clear c15b0
               try clear c16
               try clear c16b0
               try clear c18
               try clear c20
               try clear c23
               try clear c23b0
               try clear c24
               try clear c24b0
               try clear c31
               try clear c31b0
               try clear c32
               try clear c32b0
               try clear c33
               try clear c33b0
               try clear c35
               try clear c36
               try clear c36b0
               try clear c37
               try clear c37b0
               try clear hcz22_0
               try clear hcz22_1
               try clear hcz27_0
               try clear hcz27_1
               try clear hcz30_0
               try clear hcz30_1
               try clear hcz40_0
               try clear hcz40_1
               try clear hcz43_0
               try clear hcz43_1
               try clear hfz22_0
               try clear hfz22_1
               try clear hfz27_0
               try clear hfz27_1
               try clear hfz30_0
               try clear hfz30_1
               try clear hfz40_0
               try clear hfz40_1
               try clear hfz43_0
               try clear hfz43_1
               try clear hx107_0
               try clear hx108_0
               try clear hx108_1
               try clear hx112_0
               try clear hx113_0
               try clear hx113_1
               try clear hx116_0
               try clear p1
               try clear p10
               try clear p107
               try clear p108
               try clear p11
               try clear p112
               try clear p113
               try clear p116
               try clear p2
               try clear p6
               try clear q1
               try clear q10
               try clear q107
               try clear q108
               try clear q11
               try clear q112
               try clear q113
               try clear q116
               obtain ⟨x7_4, x73_4, rfl, HA, HK4, HO_7, HO_21, HL107_0, HB⟩ := hrel
               have HR107_0 := am (Kd.R_reads' HL107_0.out).2.2
               cases gk with
               | zero => exact absurd HA.out (by simp [strata_levels.l3])
               | succ k4 =>
                have H := HA.out
                clear HA
                simp only [strata_levels.l3] at H
                by_cases c44 : x73_4 < ((rd_L19 t104 x23_1).length : Int)
                ·rw [if_pos c44] at H
                 have c44b0 : decide (x73_4 < ((rd_L19 t104 x23_1).length : Int)) = true := decide_eq_true c44
                 clear c44
                 by_cases c45 : 0 ≤ x73_4
                 ·rw [if_pos c45] at H
                  have c45b0 : decide (0 ≤ x73_4) = true := decide_eq_true c45
                  clear c45
                  by_cases c46 : x73_4 < ((rd_L19 t104 x23_1).length : Int)
                  ·rw [if_pos c46] at H
                   have c46b0 : decide (x73_4 < ((rd_L19 t104 x23_1).length : Int)) = true := decide_eq_true c46
                   clear c46
                   by_cases c47 : 0 ≤ (rd (rd_L19 t104 x23_1) x73_4)
                   ·rw [if_pos c47] at H
                    have c47b0 : decide (0 ≤ (rd (rd_L19 t104 x23_1) x73_4)) = true := decide_eq_true c47
                    clear c47
                    by_cases c48 : (rd (rd_L19 t104 x23_1) x73_4) < (x7_4.length : Int)
                    ·rw [if_pos c48] at H
                     have c48b0 : decide ((rd (rd_L19 t104 x23_1) x73_4) < (x7_4.length : Int)) = true := decide_eq_true c48
                     clear c48
                     obtain ⟨y118, hy118⟩ : ∃ y_ : List Int, y_ = (x7_4.set ((rd (rd_L19 t104 x23_1) x73_4) : Int).toNat x10_3) := ⟨_, rfl⟩
                     replace H : (strata_levels.l3 k4 l1 l2 y118 x10_3 t104 (t104.length : Int) x23_1 (rd_L19 t104 x23_1) ((rd_L19 t104 x23_1).length : Int) (wrap64 (x73_4 + 1))) = some r := by first | (rw [hy118]; with_reducible exact H) | (have H2_ := (Option.bind_some _ _).symm.trans H; rw [hy118]; with_reducible exact H2_) | (have H2_ := (Option.bind_some _ _).symm.trans H; with_reducible exact H2_) | with_reducible exact H | (rw [hy118]; exact H) | exact H
                     have Ny118 := am hy118
                     clear hy118
                     have H' := am H
                     clear H
                     have p117 : 0 ≤ (x73_4 : Int) := dt_
                     have q117 : x73_4 < ((rd_L19 t104 x23_1).length : Int) := dt_
                     obtain ⟨ad117, e117, hx117_0⟩ := Kd.at_int HR107_0.out x73_4 p117 q117
                     cases e117
                     (first | (replace hx117_0 := up_ HB.out hx117_0) | skip)
                     replace p117 := eq_true p117
                     replace q117 := eq_true q117
                     have p49 : 0 ≤ ((rd (rd_L19 t104 x23_1) x73_4) : Int) := dt_
                     have q49 : ((rd (rd_L19 t104 x23_1) x73_4) : Int) < ((x7_4.length : Int) : Int) := dt_
                     obtain ⟨go49, co49, eo49, gb49, gl49, cl49, HG49⟩ := Kd.R_form HO_7.out (by omega)
                     (first | cases eo49 | (injection eo49 with ea_ en_ ec_; (first | subst ea_ | (injection ea_ with ea_; subst ea_)); subst ec_; clear en_))
                     have GB49 := am gb49
                     have GG49 := am HG49
                     clear gb49 gl49 HG49
                     obtain ⟨hx49_0, hf49_0⟩ := Kd.R_celln 0 HO_7.out ((rd (rd_L19 t104 x23_1) x73_4) : Int) p49 q49
                     replace p49 := eq_true p49
                     replace q49 := eq_true q49
                     have HP50 := Kd.R_putg HO_7.out ((rd (rd_L19 t104 x23_1) x73_4) : Int) x10_3
                     go_wp2_with (first | ((with_reducible refine gate_store (t := 3) (p := 80) rfl ?_); refine store_event (t := 3) (p := 80) (v := ?vo_w51) (w1 := (wr.setCell ⟨go49, ((rd (rd_L19 t104 x23_1) x73_4) : Int).toNat, none⟩ (.int .i64 x10_3))) ?hg ?ho ?hn ?hr ?_; (case ho => rfl); (case hg => rfl); (case hn => rfl); (case hr => first | (go_simp; done) | (go_simp; rfl)); intro w51 hw; have hg : wr.grownBy w51 (some go49) := (by rw [hw]; exact HP50.2); have hp_ : Kd.R (Kd.int .i64) 3 w51 w.heap.size (fun _ => True) (.slice (some ⟨go49, 0, none⟩) x7_4.length co49) y118 := (by rw [hw, Ny118.out]; exact HP50.1); clear HP50; replace HO_7 := am (hp_); replace HO_21 := am (Kd.S_after (v := (.slice (some ⟨go49, 0, none⟩) x7_4.length co49)) (v1 := (.slice (some ⟨go49, 0, none⟩) x7_4.length co49)) (ok := (fun _ => True)) (by (with_reducible repeat (first | apply Kd.S_alloc | apply Kd.S_drewN | apply Kd.S_drew)); exact Kd.S_mono HO_21.out (fun _ hk => ⟨trivial, hk⟩)) hg (.inl rfl)); replace HL107_0 := am (Kd.R_after (v := (.slice (some ⟨go49, 0, none⟩) x7_4.length co49)) (v1 := (.slice (some ⟨go49, 0, none⟩) x7_4.length co49)) (ok := (fun _ => True)) (by (with_reducible repeat (first | apply Kd.R_alloc | apply Kd.R_drewN | apply Kd.R_drew)); exact Kd.R_mono HL107_0.out (fun _ hk => ⟨trivial, hk⟩)) hg (.inl rfl)); replace HB := am ((by rw [hw]; exact below_set (HB.out) GB49.out : Below w.heap.size w w51)); clear hg hw hp_))
                     go_roundg k4
                     case measure => have := HK1.out; have := HK2.out; have := HK3.out; have := HK4.out; omega
                     case rel => exact ⟨(y118), (wrap64 (x73_4 + 1)), rs_, H', ⟨by have := HK1.out; have := HK2.out; have := HK3.out; have := HK4.out; omega⟩, ⟨pR HO_7.out⟩, ⟨by (with_reducible repeat (first | apply Kd.S_alloc | apply Kd.S_drewN | apply Kd.S_drew)); exact Kd.S_mono HO_21.out (fun _ hk => hk.2)⟩, ⟨by (with_reducible repeat (first | apply Kd.R_alloc | apply Kd.R_drewN | apply Kd.R_drew)); exact Kd.R_mono HL107_0.out (fun _ hk => hk.2)⟩, ⟨pL HB.out⟩⟩
                    ·rw [if_neg c48] at H
                     exact absurd H (by simp)
                   ·rw [if_neg c47] at H
                    exact absurd H (by simp)
                  ·rw [if_neg c46] at H
                   exact absurd H (by simp)
                 ·rw [if_neg c45] at H
                  exact absurd H (by simp)
                ·rw [if_neg c44] at H
                 have c44b0 : decide (x73_4 < ((rd_L19 t104 x23_1).length : Int)) = false := decide_eq_false c44
                 clear c44
                 have H' := am H
                 clear H
                 go_wp2
                 go_roundg k4
                 case measure => have := HK1.out; have := HK2.out; have := HK3.out; have := HK4.out; omega
                 case rel => exact ⟨(x7_4), (wrap64 (x23_1 + 1)), rs_, H', ⟨by have := HK1.out; have := HK2.out; have := HK3.out; have := HK4.out; omega⟩, ⟨pR HO_7.out⟩, ⟨by (with_reducible repeat (first | apply Kd.S_alloc | apply Kd.S_drewN | apply Kd.S_drew)); exact HO_21.out⟩, ⟨pL HB.out⟩⟩
       ·rw [if_neg c13] at H
        exact absurd H (by simp)
      ·rw [if_neg c12] at H
       exact absurd H (by simp)
     ·rw [if_neg c11] at H
      have c11b0 : decide (x23_1 < (t104.length : Int)) = false := decide_eq_false c11
      clear c11
      obtain rfl := Option.some.inj H
      go_wp2
      go_ret
      exact ⟨_, by first | rfl | (simp [errW_none, errW_some] <;> rfl) | (simp [*, errW_none, errW_some] <;> rfl), by (with_reducible repeat (first | apply Ra | apply Rn | apply Rd)); exact HO_7.out, pL HB.out⟩
  ·rw [if_neg c5] at H
   exact absurd H (by simp)
 ·rw [if_neg c4] at H
  exact absurd H (by simp)
end Go.Proofs.Ytmlhnjonmjmhdaa.H
namespace Go.Proofs.Ytmlhnjonmjmhdaa.H
open Go.RowKit Go.Sort Go.Proofs.YtmlhnjonmjmhdaaW.PrintWords Go.Proofs.YtmlhnjonmjmhdaaW.PrintLast Go.Proofs.YtmlhnjonmjmhdaaW.PrintMore
def slices_Compact_string_string.f (l : List ByteArray) : Option (List ByteArray) := some (compactS l)
theorem slices_Compact_string_string.calls (P0_ : Nat → Prop) (u9000_ : Value) (l0 r : List ByteArray) (w0 w : World) (hB : Below w0.heap.size w0 w) (ho0 : Kd.R Kd.string 9 w w0.heap.size P0_ u9000_ l0) (h : slices_Compact_string_string.f l0 = some r) :
    Calls Try.prog 56 #[u9000_] w fun e w' => ∃ v0_ : Value, e = .returned v0_ ∧ Kd.R Kd.string 9 w' w0.heap.size (fun k_ => (P0_ k_ ∨ w.heap.size ≤ k_)) v0_ r ∧ Below w0.heap.size w0 w' ∧ Kept w w' (fun k_ => P0_ k_) := by
  cases h
  have ho := Kd.own_of_R ho0
  obtain ⟨hlen, ho⟩ := ho
  rcases ho with ⟨rfl, h0⟩ | ⟨g, cap, cur, rfl, hbase, hb, h1, h2, h3, h4⟩
  · obtain rfl := List.length_eq_zero_iff.1 h0
    refine (Try.slices_Compact_string_empty none 0 w).mono ?_
    rintro e w' ⟨rfl, rfl⟩
    exact ⟨_, rfl, by simpa [compactS, Go.Lib.compact, Go.Lib.compactUpTo] using Kd.R_mono ho0 (fun k hk => .inl hk), hB, Kept.refl _ _⟩
  · have e4 : cur.toList.take (l0.map toL).length = (l0.map toL).map encStr := by
      rw [← encs_toL, List.length_map]
      rw [Nat.mul_one] at h4
      exact h4
    have hP : P0_ g := ho0.1 g rfl
    have hz : (l0.map toL).length ≤ 9223372036854775807 := by rw [List.length_map]; unfold maxLen at h2; omega
    have c := Try.slices_Compact_string g 0 cap (l0.map toL) w (so_holds hb e4) hz (by simpa using h1)
    rw [List.length_map] at c
    refine c.mono ?_
    rintro e w' ⟨rfl, q, rfl⟩
    generalize ht : Go.Lib.compact (l0.map toL) ++ List.replicate (l0.length - (Go.Lib.compact (l0.map toL)).length) ([] : List UInt8) = ts
    have hcl : (Go.Lib.compact (l0.map toL)).length ≤ l0.length := by simpa [compactS] using compactS_len l0
    have hl : ts.length = (l0.map toL).length := by rw [← ht]; simp; omega
    have e0 : putRow encStr (Sort.ahead w q) g 0 ts.toArray = grow (putRow encStr (Sort.ahead w q) g 0 ts.toArray) #[] := by simp
    rw [e0]
    have hgr := so_grown (w := w) (g := g) (n := q) (os := #[]) (enc := encStr) ts.toArray
    refine ⟨_, rfl, ?_, so_below hB hgr hbase, so_kept hgr hP⟩
    have hr := so_owns (w := w) (n := q) (os := #[]) (enc := encStr) (m := (Go.Lib.compact (l0.map toL)).length) (ts := ts) (ss := l0.map toL) hl (by rw [hl]; simpa using hcl) hbase hb (by simpa using h1) h2 h3
    refine Kd.R_of_own ?_ (fun k hk => .inl (ho0.1 k (by simpa [Value.ownBlock] using hk)))
    rw [← ht, List.take_left' rfl, encs_ofL] at hr
    rw [show (compactS l0).length = (Go.Lib.compact (l0.map toL)).length by simp [compactS]]
    rw [ht] at hr
    exact hr
def slices_Sort_string_string.f (l : List ByteArray) : Option (List ByteArray) := if l.length < 4611686018427387904 then some (sortS l) else none
theorem slices_Sort_string_string.calls (P0_ : Nat → Prop) (u9000_ : Value) (l0 r : List ByteArray) (w0 w : World) (hB : Below w0.heap.size w0 w) (ho0 : Kd.R Kd.string 9 w w0.heap.size P0_ u9000_ l0) (h : slices_Sort_string_string.f l0 = some r) :
    Calls Try.prog 55 #[u9000_] w fun e w' => e = .returned (.tuple #[]) ∧ Kd.R Kd.string 9 w' w0.heap.size (fun k_ => (P0_ k_ ∨ w.heap.size ≤ k_)) u9000_ r ∧ Below w0.heap.size w0 w' ∧ Kept w w' (fun k_ => P0_ k_) := by
  unfold slices_Sort_string_string.f at h
  split at h
  case isFalse => cases h
  rename_i hz0
  cases h
  have ho := Kd.own_of_R ho0
  obtain ⟨hlen, ho⟩ := ho
  rcases ho with ⟨rfl, h0⟩ | ⟨g, cap, cur, rfl, hbase, hb, h1, h2, h3, h4⟩
  · obtain rfl := List.length_eq_zero_iff.1 h0
    refine (Try.slices_Sort_string_none none 0 w).mono ?_
    rintro e w' ⟨rfl, rfl⟩
    exact ⟨rfl, by simpa [sortS] using Kd.R_mono ho0 (fun k hk => .inl hk), hB, Kept.refl _ _⟩
  · have e4 : cur.toList.take (l0.map toL).length = (l0.map toL).map encStr := by
      rw [← encs_toL, List.length_map]
      rw [Nat.mul_one] at h4
      exact h4
    have hP : P0_ g := ho0.1 g rfl
    have hg : g < w.heap.size := (Array.getElem?_eq_some_iff.1 hb).1
    have hz : (l0.map toL).length < 4611686018427387904 := by rw [List.length_map]; exact hz0
    have c := Try.slices_Sort_string g 0 cap (l0.map toL) w (so_holds hb e4) hg hz
    rw [List.length_map] at c
    refine c.mono ?_
    rintro e w' ⟨rfl, n, os, rfl⟩
    have hgr := so_grown (w := w) (g := g) (n := n) (os := os) (enc := encStr) ((l0.map toL).mergeSort fun x y => decide (x ≤ y)).toArray
    refine ⟨rfl, ?_, so_below hB hgr hbase, so_kept hgr hP⟩
    have hr := so_owns (w := w) (n := n) (os := os) (enc := encStr) (m := l0.length) (ts := (l0.map toL).mergeSort fun x y => decide (x ≤ y)) (ss := l0.map toL) (by simp) (by simp) hbase hb (by simpa using h1) h2 h3
    refine Kd.R_of_own ?_ (fun k hk => .inl (ho0.1 k hk))
    rw [List.take_of_length_le (by simp), encs_ofL] at hr
    rw [sortS_len]
    simpa [sortS, encs] using hr
end Go.Proofs.Ytmlhnjonmjmhdaa.H
namespace Go.Proofs.Ytmlhnjonmjmhdaa.H
open Go.RowKit Go.Proofs.YtmlhnjonmjmhdaaW.PrintWords Go.Proofs.YtmlhnjonmjmhdaaW.PrintLast Go.Proofs.YtmlhnjonmjmhdaaW.PrintMore
attribute [local go_sem] max2_int min2_int max_two min_two max_three min_three max_four min_four
mutual
def strata_Preds.l0 : Nat → List ByteArray → List (Decl) → Int → Int → List (Decl) → List (Rule) → Option (List ByteArray)
 | 0, _, _, _, _, _, _ => none
 | k + 1, x3, x11, x12, x13, x102000, x102001 => if x13 < x12 then (if 0 ≤ x13 then (if x13 < (x11.length : Int) then (if x3.length < 8796093022208 then (strata_Preds.l0 k (x3 ++ [(rd_T96 x11 x13).pred]) x11 x12 (wrap64 (x13 + 1)) x102000 x102001) else (none)) else (none)) else (none)) else (strata_Preds.l1 k x3 x102001 (x102001.length : Int) 0)
def strata_Preds.l1 : Nat → List ByteArray → List (Rule) → Int → Int → Option (List ByteArray)
 | 0, _, _, _, _ => none
 | k + 1, x3, x24, x25, x26 => if x26 < x25 then (if 0 ≤ x26 then (if x26 < (x24.length : Int) then (if x3.length < 8796093022208 then (strata_Preds.l2 k (x3 ++ [(rd_T64 x24 x26).head.pred]) x24 x25 x26 ((rd_T64 x24 x26).body) (((rd_T64 x24 x26).body).length : Int) 0) else (none)) else (none)) else (none)) else ((slices_Sort_string_string.f x3).bind fun t107 => ((slices_Compact_string_string.f t107).bind fun t108 => (some t108)))
def strata_Preds.l2 : Nat → List ByteArray → List (Rule) → Int → Int → List (Liter) → Int → Int → Option (List ByteArray)
 | 0, _, _, _, _, _, _, _ => none
 | k + 1, x3, x24, x25, x26, x37, x38, x39 => if x39 < x38 then (if 0 ≤ x39 then (if x39 < (x37.length : Int) then (if ((rd_T71 x37 x39).kind) = 1 then (if x3.length < 8796093022208 then (strata_Preds.l2 k (x3 ++ [(rd_T71 x37 x39).atom.pred]) x24 x25 x26 x37 x38 (wrap64 (x39 + 1))) else (none)) else (if ((rd_T71 x37 x39).kind) = 2 then (if x3.length < 8796093022208 then (strata_Preds.l2 k (x3 ++ [(rd_T71 x37 x39).atom.pred]) x24 x25 x26 x37 x38 (wrap64 (x39 + 1))) else (none)) else (strata_Preds.l2 k x3 x24 x25 x26 x37 x38 (wrap64 (x39 + 1))))) else (none)) else (none)) else (strata_Preds.l1 k x3 x24 x25 (wrap64 (x26 + 1)))
end
def strata_Preds.f (k : Nat) (l0_0 : List (Decl)) (l0_1 : List (Rule)) : Option (List ByteArray) := strata_Preds.l0 k ([] : List ByteArray) l0_0 (l0_0.length : Int) 0 l0_0 l0_1
theorem strata_Preds.mono_l : ∀ k, (∀ y0 y1 y2 y3 y4 y5, LeO (strata_Preds.l0 k y0 y1 y2 y3 y4 y5) (strata_Preds.l0 (k + 1) y0 y1 y2 y3 y4 y5)) ∧ (∀ y0 y1 y2 y3, LeO (strata_Preds.l1 k y0 y1 y2 y3) (strata_Preds.l1 (k + 1) y0 y1 y2 y3)) ∧ (∀ y0 y1 y2 y3 y4 y5 y6, LeO (strata_Preds.l2 k y0 y1 y2 y3 y4 y5 y6) (strata_Preds.l2 (k + 1) y0 y1 y2 y3 y4 y5 y6))
 | 0 => ⟨fun _ _ _ _ _ _ r h => by simp [strata_Preds.l0] at h, fun _ _ _ _ r h => by simp [strata_Preds.l1] at h, fun _ _ _ _ _ _ _ r h => by simp [strata_Preds.l2] at h⟩
 | k + 1 => by
  obtain ⟨ih0, ih1, ih2⟩ := strata_Preds.mono_l k
  refine ⟨?_, ?_, ?_⟩
  ·intro y0 y1 y2 y3 y4 y5
   unfold strata_Preds.l0
   repeat' first
   | (with_reducible exact ih0 _ _ _ _ _ _)
   | (with_reducible exact ih1 _ _ _ _)
   | (with_reducible exact ih2 _ _ _ _ _ _ _)
   | (with_reducible exact LeO.refl _)
   | (with_reducible exact LeO.none _)
   | (with_reducible refine LeO.ite ?_ ?_)
   | (with_reducible refine LeO.bind ?_ (fun _ => ?_))
   | exact ih0 _ _ _ _ _ _
   | exact ih1 _ _ _ _
   | exact ih2 _ _ _ _ _ _ _
   | exact LeO.none _
   | refine LeO.ite ?_ ?_
   | refine LeO.bind ?_ (fun _ => ?_)
  ·intro y0 y1 y2 y3
   unfold strata_Preds.l1
   repeat' first
   | (with_reducible exact ih0 _ _ _ _ _ _)
   | (with_reducible exact ih1 _ _ _ _)
   | (with_reducible exact ih2 _ _ _ _ _ _ _)
   | (with_reducible exact LeO.refl _)
   | (with_reducible exact LeO.none _)
   | (with_reducible refine LeO.ite ?_ ?_)
   | (with_reducible refine LeO.bind ?_ (fun _ => ?_))
   | exact ih0 _ _ _ _ _ _
   | exact ih1 _ _ _ _
   | exact ih2 _ _ _ _ _ _ _
   | exact LeO.none _
   | refine LeO.ite ?_ ?_
   | refine LeO.bind ?_ (fun _ => ?_)
  ·intro y0 y1 y2 y3 y4 y5 y6
   unfold strata_Preds.l2
   repeat' first
   | (with_reducible exact ih0 _ _ _ _ _ _)
   | (with_reducible exact ih1 _ _ _ _)
   | (with_reducible exact ih2 _ _ _ _ _ _ _)
   | (with_reducible exact LeO.refl _)
   | (with_reducible exact LeO.none _)
   | (with_reducible refine LeO.ite ?_ ?_)
   | (with_reducible refine LeO.bind ?_ (fun _ => ?_))
   | exact ih0 _ _ _ _ _ _
   | exact ih1 _ _ _ _
   | exact ih2 _ _ _ _ _ _ _
   | exact LeO.none _
   | refine LeO.ite ?_ ?_
   | refine LeO.bind ?_ (fun _ => ?_)
theorem strata_Preds.mono : ∀ a0 a1 k, LeO (strata_Preds.f k a0 a1) (strata_Preds.f (k + 1) a0 a1) := by
 intro a0 a1 k
 obtain ⟨ih0, ih1, ih2⟩ := strata_Preds.mono_l k
 unfold strata_Preds.f
 repeat' first
   | (with_reducible exact ih0 _ _ _ _ _ _)
   | (with_reducible exact ih1 _ _ _ _)
   | (with_reducible exact ih2 _ _ _ _ _ _ _)
   | (with_reducible exact LeO.refl _)
   | (with_reducible exact LeO.none _)
   | (with_reducible refine LeO.ite ?_ ?_)
   | (with_reducible refine LeO.bind ?_ (fun _ => ?_))
   | exact ih0 _ _ _ _ _ _
   | exact ih1 _ _ _ _
   | exact ih2 _ _ _ _ _ _ _
   | exact LeO.none _
   | refine LeO.ite ?_ ?_
   | refine LeO.bind ?_ (fun _ => ?_)
set_option maxHeartbeats 8000000 in
set_option maxRecDepth 100000 in
theorem strata_Preds.calls (k : Nat) (A0_0 : Option Addr) (c0_0 : Nat) (l0_0 : List (Decl)) (A0_1 : Option Addr) (c0_1 : Nat) (l0_1 : List (Rule)) (r : List ByteArray) (w : World) (hr0_0 : Kd.C k96 w A0_0 l0_0.length l0_0) (hc0_0 : l0_0.length ≤ c0_0) (hr0_1 : Kd.C k64 w A0_1 l0_1.length l0_1) (hc0_1 : l0_1.length ≤ c0_1) (h : strata_Preds.f k l0_0 l0_1 = some r) :
  Calls Try.prog 32 #[.agg #[.slice A0_0 l0_0.length c0_0, .slice A0_1 l0_1.length c0_1]] w fun e w' => ∃ v0_ : Value, e = .returned (v0_) ∧ Kd.R Kd.string 9 w' w.heap.size (fun _ => True) v0_ r ∧ Below w.heap.size w w' := by
 have hu50 := Try.underlying50
 have hu96 := Try.underlying96
 have hu64 := Try.underlying64
 have hu71 := Try.underlying71
 have HR0_0 := am hr0_0
 have HC0_0 := am hc0_0
 clear hr0_0 hc0_0
 have HR0_1 := am hr0_1
 have HC0_1 := am hc0_1
 clear hr0_1 hc0_1
 have HB := am (Below.refl w.heap.size w)
 have H : (strata_Preds.l0 k ([] : List ByteArray) l0_0 (l0_0.length : Int) 0 l0_0 l0_1) = some r := h
 clear h
 have H' := am H
 clear H
 go_enter Try.func32, Try.ntmps32
 go_wp2_with (first | ((with_reducible refine gate_dst (N := 1) rfl ?_); refine box_event ?hg (N := 1) ?hd (cs := #[.slice A0_0 l0_0.length c0_0, .slice A0_1 l0_1.length c0_1]) (t := 50) ?hr ?_; (case hd => rfl); (case hg => rfl); (case hr => first | (go_simp; done) | (go_simp; rfl)); intro gb101 hg w2 hbox hb; have BK101 := am (hbox); have GW101 := am (gw_ hg HB.out); have GE101 := GW101; replace HB := am (bs_ HB.out hb); clear hb hbox hg; obtain ⟨hcz3_0, hcz3_1, hfz3_0, hfz3_1⟩ := bc2 BK101.out))
 go_loopg [3, 13] k (fun kq v3 v13 w' => ∃ (x3_1 : List ByteArray) (x13_1 : Int), v13 = .int .i64 x13_1 ∧ Aside0 (strata_Preds.l0 kq x3_1 l0_0 (l0_0.length : Int) x13_1 l0_0 l0_1 = some r) ∧ Aside0 (kq ≤ k) ∧ Aside0 (Kd.R Kd.string 9 w' w.heap.size (fun _ => True) v3 x3_1) ∧ Aside0 (w'.heap[gb101]? = some (.cells #[(.slice A0_0 l0_0.length c0_0), (.slice A0_1 l0_1.length c0_1)] 50 (0, 0))) ∧ Aside0 (Below w.heap.size w w'))
 case atStart => exact ⟨(([] : List ByteArray)), (0), rs_, H', ⟨Nat.le_refl _⟩, ⟨by first | exact Kd.R_nil _ _ _ _ _ | exact Kd.N_nil _ _ _ _ _ | exact Kd.V_nil _ _ _ _ _ | exact Kd.Q_nil _ _ _ _ _ | exact Kd.S_nil _ _ _ _ _⟩, ⟨pB BK101.out⟩, ⟨pL HB.out⟩⟩
 case round =>
  clear H'
  try clear p2
  try clear c3
  try clear hcz3_0
  try clear hcz3_1
  try clear hfz3_0
  try clear hfz3_1
  obtain ⟨x3_1, x13_1, rfl, HA, HK1, HO_3, BK101, HB⟩ := hrel
  cases gk with
  | zero => exact absurd HA.out (by simp [strata_Preds.l0])
  | succ k1 =>
   have H := HA.out
   clear HA
   simp only [strata_Preds.l0] at H
   by_cases c4 : x13_1 < (l0_0.length : Int)
   ·rw [if_pos c4] at H
    have c4b0 : decide (x13_1 < (l0_0.length : Int)) = true := decide_eq_true c4
    clear c4
    by_cases c5 : 0 ≤ x13_1
    ·rw [if_pos c5] at H
     have c5b0 : decide (0 ≤ x13_1) = true := decide_eq_true c5
     clear c5
     by_cases c6 : x13_1 < (l0_0.length : Int)
     ·rw [if_pos c6] at H
      have c6b0 : decide (x13_1 < (l0_0.length : Int)) = true := decide_eq_true c6
      clear c6
      by_cases c7 : x3_1.length < 8796093022208
      ·rw [if_pos c7] at H
       have LMc7 := am c7
       clear c7
       obtain ⟨y104, hy104⟩ : ∃ y_ : List ByteArray, y_ = (x3_1 ++ [(rd_T96 l0_0 x13_1).pred]) := ⟨_, rfl⟩
       replace H : (strata_Preds.l0 k1 y104 l0_0 (l0_0.length : Int) (wrap64 (x13_1 + 1)) l0_0 l0_1) = some r := by first | (rw [hy104]; with_reducible exact H) | (have H2_ := (Option.bind_some _ _).symm.trans H; rw [hy104]; with_reducible exact H2_) | (have H2_ := (Option.bind_some _ _).symm.trans H; with_reducible exact H2_) | with_reducible exact H | (rw [hy104]; exact H) | exact H
       have Ny104 := am hy104
       clear hy104
       have H' := am H
       clear H
       have p102 : 0 ≤ (x13_1 : Int) := dt_
       have q102 : x13_1 < (l0_0.length : Int) := dt_
       obtain ⟨ad102, e102, hx102_0, hx102_1⟩ := at_T96 HR0_0.out x13_1 p102 q102
       cases e102
       replace hx102_0 := up_ HB.out hx102_0
       replace hx102_1 := up_ HB.out hx102_1
       replace p102 := eq_true p102
       replace q102 := eq_true q102
       go_wp2_with (first | ((with_reducible refine gate_dst (N := 5) rfl ?_); refine box_event ?hg (N := 5) ?hd (cs := #[.string (⟨#[]⟩ : ByteArray), .int .i64 0]) (t := 96) ?hr ?_; (case hd => rfl); (case hg => rfl); (case hr => first | (go_simp; done) | (go_simp; rfl)); intro gb103 hg w8 hbox hb; replace HO_3 := am (Rb_ HO_3.out hb); have BK103 := am (hbox); have GW103 := am (gw_ hg HB.out); have GE103 := GW103; replace HB := am (bs_ HB.out hb); have NB101_103 := am (nb_ hg BK101.out); have NB103_101 := am NB101_103.out.symm; replace BK101 := am (bb_ BK101.out hb); clear hb hbox hg; have hnb9 := NB103_101.out; have hnc9 := NB101_103.out; obtain ⟨hcz10_0, hcz10_1, hfz10_0, hfz10_1⟩ := bc2 BK103.out) | ((with_reducible refine gate_builtin (b := .append) (xs := #[.tmp 17, .tmp 20]) rfl ?_); at_builtin; refine Kd.R_append Kd.string (w0 := w) w.heap.size rfl (.tmp 17) (.tmp 20) 52 9 (.string ⟨#[]⟩) 16 rfl Try.underlying52 info9 rfl (by decide) (by omega) u3 x3_1 ((rd_T96 l0_0 x13_1).pred) [.string ((rd_T96 l0_0 x13_1).pred)] (fun _ => True) (fun _ => False) rfl (by first | (go_simp; done) | (go_simp; rfl)) ?aP (fun _ hk => hk.elim) ?aF ?aO ?aB ?aS ?aL ?_; (case aP => exact rfl); (case aB => exact (pL HB.out)); (case aF => exact (fun _ _ => trivial)); (case aO => exact (by (with_reducible repeat (first | apply Ra | apply Rn | apply Rd)); exact Kd.R_mono (Rf (Rf (Kd.R_types HO_3.out BK103.out (by decide)))) (fun _ hk => trivial))); (case aS => exact (below_size (pL HB.out))); (case aL => have := LMc7.out; omega); intro v105 w11 ho hb hg hat; rw [← Ny104.out] at ho; replace BK101 := am (blk_grown (g := gb101) (o := .cells #[.slice (some ad102) l0_0.length c0_0, .slice A0_1 l0_1.length c0_1] 50 (0, 0)) (by (with_reducible repeat (first | refine bN ?_ _ | refine bD ?_ | refine bA ?_ _)); refine blk_far ?_ NB101_103.out _; (with_reducible repeat (first | refine bN ?_ _ | refine bD ?_ | refine bA ?_ _)); refine blk_far ?_ NB101_103.out _; (with_reducible repeat (first | refine bN ?_ _ | refine bD ?_ | refine bA ?_ _)); exact BK101.out) hg (Kd.R_ne HO_3.out BK101.out (by decide))); replace BK103 := am (blk_grown (g := gb103) (o := .cells #[.string ((rd_T96 l0_0 x13_1).pred), .int .i64 ((rd_T96 l0_0 x13_1).arity)] 96 (0, 0)) (by (with_reducible repeat (first | refine bN ?_ _ | refine bD ?_ | refine bA ?_ _)); exact bq2 BK103.out) hg (Kd.R_ne HO_3.out BK103.out (by decide))); replace HB := am (hb); have HO106 := am (ho); clear HO_3; clear ho hb hg hat))
       go_roundg k1
       case measure => have := HK1.out; omega
       case rel => exact ⟨(y104), (wrap64 (x13_1 + 1)), rs_, H', ⟨by have := HK1.out; omega⟩, ⟨pR HO106.out⟩, ⟨pB BK101.out⟩, ⟨pL HB.out⟩⟩
      ·rw [if_neg c7] at H
       exact absurd H (by simp)
     ·rw [if_neg c6] at H
      exact absurd H (by simp)
    ·rw [if_neg c5] at H
     exact absurd H (by simp)
   ·rw [if_neg c4] at H
    have c4b0 : decide (x13_1 < (l0_0.length : Int)) = false := decide_eq_false c4
    clear c4
    have H' := am H
    clear H
    obtain ⟨hcz12_0, hcz12_1, hfz12_0, hfz12_1⟩ := bc2 BK101.out
    go_wp2
    go_loopg [3, 26] k1 (fun kq v3 v26 w' => ∃ (x3_2 : List ByteArray) (x26_2 : Int), v26 = .int .i64 x26_2 ∧ Aside0 (strata_Preds.l1 kq x3_2 l0_1 (l0_1.length : Int) x26_2 = some r) ∧ Aside0 (kq ≤ k1) ∧ Aside0 (Kd.R Kd.string 9 w' w.heap.size (fun _ => True) v3 x3_2) ∧ Aside0 (w'.heap[gb101]? = some (.cells #[(.slice A0_0 l0_0.length c0_0), (.slice A0_1 l0_1.length c0_1)] 50 (0, 0))) ∧ Aside0 (Below w.heap.size w w'))
    case atStart => exact ⟨(x3_1), (0), rs_, H', ⟨Nat.le_refl _⟩, ⟨pR HO_3.out⟩, ⟨pB BK101.out⟩, ⟨pL HB.out⟩⟩
    case round =>
     clear H'
     try clear p1
     try clear q1
     try clear hx1
     try clear p2
     try clear c3
     try clear c4
     try clear c4b0
     try clear c5
     try clear c5b0
     try clear c6
     try clear c6b0
     try clear p6
     try clear c7
     try clear c9
     try clear p10
     try clear q10
     try clear hx10
     try clear hcz10_0
     try clear hcz10_1
     try clear hcz12_0
     try clear hcz12_1
     try clear hcz3_0
     try clear hcz3_1
     try clear hfz10_0
     try clear hfz10_1
     try clear hfz12_0
     try clear hfz12_1
     try clear hfz3_0
     try clear hfz3_1
     try clear hx102_0
     try clear hx102_1
     try clear p102
     try clear p2
     try clear q102
     obtain ⟨x3_2, x26_2, rfl, HA, HK2, HO_3, BK101, HB⟩ := hrel
     cases gk with
     | zero => exact absurd HA.out (by simp [strata_Preds.l1])
     | succ k2 =>
      have H := HA.out
      clear HA
      simp only [strata_Preds.l1] at H
      by_cases c13 : x26_2 < (l0_1.length : Int)
      ·rw [if_pos c13] at H
       have c13b0 : decide (x26_2 < (l0_1.length : Int)) = true := decide_eq_true c13
       clear c13
       by_cases c14 : 0 ≤ x26_2
       ·rw [if_pos c14] at H
        have c14b0 : decide (0 ≤ x26_2) = true := decide_eq_true c14
        clear c14
        by_cases c15 : x26_2 < (l0_1.length : Int)
        ·rw [if_pos c15] at H
         have c15b0 : decide (x26_2 < (l0_1.length : Int)) = true := decide_eq_true c15
         clear c15
         by_cases c16 : x3_2.length < 8796093022208
         ·rw [if_pos c16] at H
          have LMc16 := am c16
          clear c16
          obtain ⟨y113, hy113⟩ : ∃ y_ : List ByteArray, y_ = (x3_2 ++ [(rd_T64 l0_1 x26_2).head.pred]) := ⟨_, rfl⟩
          replace H : (strata_Preds.l2 k2 y113 l0_1 (l0_1.length : Int) x26_2 ((rd_T64 l0_1 x26_2).body) (((rd_T64 l0_1 x26_2).body).length : Int) 0) = some r := by first | (rw [hy113]; with_reducible exact H) | (have H2_ := (Option.bind_some _ _).symm.trans H; rw [hy113]; with_reducible exact H2_) | (have H2_ := (Option.bind_some _ _).symm.trans H; with_reducible exact H2_) | with_reducible exact H | (rw [hy113]; exact H) | exact H
          have Ny113 := am hy113
          clear hy113
          have H' := am H
          clear H
          have p111 : 0 ≤ (x26_2 : Int) := dt_
          have q111 : x26_2 < (l0_1.length : Int) := dt_
          obtain ⟨ad111, A111_1, c111_1, A111_2, c111_2, e111, hx111_0, hx111_1, hx111_2, hl111_1, hi111_1, hl111_2, hi111_2⟩ := at_T64 HR0_1.out x26_2 p111 q111
          cases e111
          replace hx111_0 := up_ HB.out hx111_0
          replace hx111_1 := up_ HB.out hx111_1
          replace hx111_2 := up_ HB.out hx111_2
          have HR111_1 := am hi111_1
          have HC111_1 := am hl111_1
          clear hi111_1 hl111_1
          have HR111_2 := am hi111_2
          have HC111_2 := am hl111_2
          clear hi111_2 hl111_2
          replace p111 := eq_true p111
          replace q111 := eq_true q111
          go_wp2_with (first | ((with_reducible refine gate_dst (N := 7) rfl ?_); refine box_event ?hg (N := 7) ?hd (cs := #[.string (⟨#[]⟩ : ByteArray), .slice none 0 0, .slice none 0 0]) (t := 64) ?hr ?_; (case hd => rfl); (case hg => rfl); (case hr => first | (go_simp; done) | (go_simp; rfl)); intro gb112 hg w17 hbox hb; replace HO_3 := am (Rb_ HO_3.out hb); have BK112 := am (hbox); have GW112 := am (gw_ hg HB.out); have GE112 := GW112; replace HB := am (bs_ HB.out hb); have NB101_112 := am (nb_ hg BK101.out); have NB112_101 := am NB101_112.out.symm; replace BK101 := am (bb_ BK101.out hb); clear hb hbox hg; have hnb18 := NB112_101.out; have hnc18 := NB101_112.out; obtain ⟨hcz19_0, hcz19_1, hcz19_2, hfz19_0, hfz19_1, hfz19_2⟩ := bc3 BK112.out) | ((with_reducible refine gate_builtin (b := .append) (xs := #[.tmp 30, .tmp 34]) rfl ?_); at_builtin; refine Kd.R_append Kd.string (w0 := w) w.heap.size rfl (.tmp 30) (.tmp 34) 52 9 (.string ⟨#[]⟩) 16 rfl Try.underlying52 info9 rfl (by decide) (by omega) u3 x3_2 ((rd_T64 l0_1 x26_2).head.pred) [.string ((rd_T64 l0_1 x26_2).head.pred)] (fun _ => True) (fun _ => False) rfl (by first | (go_simp; done) | (go_simp; rfl)) ?aP (fun _ hk => hk.elim) ?aF ?aO ?aB ?aS ?aL ?_; (case aP => exact rfl); (case aB => exact (pL HB.out)); (case aF => exact (fun _ _ => trivial)); (case aO => exact (by (with_reducible repeat (first | apply Ra | apply Rn | apply Rd)); exact Kd.R_mono (Rf (Rf (Rf (Kd.R_types HO_3.out BK112.out (by decide))))) (fun _ hk => trivial))); (case aS => exact (below_size (pL HB.out))); (case aL => have := LMc16.out; omega); intro v114 w20 ho hb hg hat; rw [← Ny113.out] at ho; replace BK101 := am (blk_grown (g := gb101) (o := .cells #[.slice A0_0 l0_0.length c0_0, .slice (some ad111) l0_1.length c0_1] 50 (0, 0)) (pF BK101.out) hg (Kd.R_ne HO_3.out BK101.out (by decide))); replace BK112 := am (blk_grown (g := gb112) (o := .cells #[.string ((rd_T64 l0_1 x26_2).head.pred), .slice A111_1 ((rd_T64 l0_1 x26_2).head.args).length c111_1, .slice A111_2 ((rd_T64 l0_1 x26_2).body).length c111_2] 64 (0, 0)) (by (with_reducible repeat (first | refine bN ?_ _ | refine bD ?_ | refine bA ?_ _)); exact bq3 BK112.out) hg (Kd.R_ne HO_3.out BK112.out (by decide))); replace HB := am (hb); have HO115 := am (ho); clear HO_3; clear ho hb hg hat; obtain ⟨hcz21_0, hcz21_1, hcz21_2, hfz21_0, hfz21_1, hfz21_2⟩ := bc3 BK112.out))
          go_loopg [3, 39] k2 (fun kq v3 v39 w' => ∃ (x3_3 : List ByteArray) (x39_3 : Int), v39 = .int .i64 x39_3 ∧ Aside0 (strata_Preds.l2 kq x3_3 l0_1 (l0_1.length : Int) x26_2 ((rd_T64 l0_1 x26_2).body) (((rd_T64 l0_1 x26_2).body).length : Int) x39_3 = some r) ∧ Aside0 (kq ≤ k2) ∧ Aside0 (Kd.R Kd.string 9 w' w.heap.size (fun _ => True) v3 x3_3) ∧ Aside0 (w'.heap[gb101]? = some (.cells #[(.slice A0_0 l0_0.length c0_0), (.slice (some ad111) l0_1.length c0_1)] 50 (0, 0))) ∧ Aside0 (w'.heap[gb112]? = some (.cells #[.string ((rd_T64 l0_1 x26_2).head.pred), (.slice A111_1 ((rd_T64 l0_1 x26_2).head.args).length c111_1), (.slice A111_2 ((rd_T64 l0_1 x26_2).body).length c111_2)] 64 (0, 0))) ∧ Aside0 (Below w.heap.size w w'))
          case atStart => exact ⟨(y113), (0), rs_, H', ⟨Nat.le_refl _⟩, ⟨pR HO115.out⟩, ⟨pB BK101.out⟩, ⟨pB BK112.out⟩, ⟨pL HB.out⟩⟩
          case round =>
           clear H'
           try clear c1
           try clear p1
           try clear q1
           try clear hx1
           try clear p2
           try clear c3
           try clear c4
           try clear c4b0
           try clear c5
           try clear c5b0
           try clear c6
           try clear c6b0
           try clear p6
           try clear c7
           try clear c9
           try clear p10
           try clear q10
           try clear hx10
           try clear c11
           try clear p11
           try clear q11
           try clear hx11
           try clear c13
           try clear c13b0
           try clear c14
           try clear c14b0
           try clear c15
           try clear c15b0
           try clear c16
           try clear c18
           try clear hcz10_0
           try clear hcz10_1
           try clear hcz12_0
           try clear hcz12_1
           try clear hcz19_0
           try clear hcz19_1
           try clear hcz19_2
           try clear hcz21_0
           try clear hcz21_1
           try clear hcz21_2
           try clear hcz3_0
           try clear hcz3_1
           try clear hfz10_0
           try clear hfz10_1
           try clear hfz12_0
           try clear hfz12_1
           try clear hfz19_0
           try clear hfz19_1
           try clear hfz19_2
           try clear hfz21_0
           try clear hfz21_1
           try clear hfz21_2
           try clear hfz3_0
           try clear hfz3_1
           try clear hx102_0
           try clear hx102_1
           try clear hx111_0
           try clear hx111_1
           try clear hx111_2
           try clear p1
           try clear p10
           try clear p102
           try clear p111
           try clear p2
           try clear p6
           try clear q1
           try clear q10
           try clear q102
           try clear q111
           obtain ⟨x3_3, x39_3, rfl, HA, HK3, HO_3, BK101, BK112, HB⟩ := hrel
           cases gk with
           | zero => exact absurd HA.out (by simp [strata_Preds.l2])
           | succ k3 =>
            have H := HA.out
            clear HA
            simp only [strata_Preds.l2] at H
            by_cases c22 : x39_3 < (((rd_T64 l0_1 x26_2).body).length : Int)
            ·rw [if_pos c22] at H
             have c22b0 : decide (x39_3 < (((rd_T64 l0_1 x26_2).body).length : Int)) = true := decide_eq_true c22
             clear c22
             by_cases c23 : 0 ≤ x39_3
             ·rw [if_pos c23] at H
              have c23b0 : decide (0 ≤ x39_3) = true := decide_eq_true c23
              clear c23
              by_cases c24 : x39_3 < (((rd_T64 l0_1 x26_2).body).length : Int)
              ·rw [if_pos c24] at H
               have c24b0 : decide (x39_3 < (((rd_T64 l0_1 x26_2).body).length : Int)) = true := decide_eq_true c24
               clear c24
               by_cases c25 : ((rd_T71 ((rd_T64 l0_1 x26_2).body) x39_3).kind) = 1
               ·rw [if_pos c25] at H
                have c25b0 : (((rd_T71 ((rd_T64 l0_1 x26_2).body) x39_3).kind) == 1) = true := beq_iff_eq.mpr c25
                have c25b1 : (((rd_T71 ((rd_T64 l0_1 x26_2).body) x39_3).kind) != 1) = false := bne_eq_false_iff_eq.mpr c25
                clear c25
                by_cases c26 : x3_3.length < 8796093022208
                ·rw [if_pos c26] at H
                 have LMc26 := am c26
                 clear c26
                 obtain ⟨y118, hy118⟩ : ∃ y_ : List ByteArray, y_ = (x3_3 ++ [(rd_T71 ((rd_T64 l0_1 x26_2).body) x39_3).atom.pred]) := ⟨_, rfl⟩
                 replace H : (strata_Preds.l2 k3 y118 l0_1 (l0_1.length : Int) x26_2 ((rd_T64 l0_1 x26_2).body) (((rd_T64 l0_1 x26_2).body).length : Int) (wrap64 (x39_3 + 1))) = some r := by first | (rw [hy118]; with_reducible exact H) | (have H2_ := (Option.bind_some _ _).symm.trans H; rw [hy118]; with_reducible exact H2_) | (have H2_ := (Option.bind_some _ _).symm.trans H; with_reducible exact H2_) | with_reducible exact H | (rw [hy118]; exact H) | exact H
                 have Ny118 := am hy118
                 clear hy118
                 have H' := am H
                 clear H
                 have p116 : 0 ≤ (x39_3 : Int) := dt_
                 have q116 : x39_3 < (((rd_T64 l0_1 x26_2).body).length : Int) := dt_
                 obtain ⟨ad116, A116_2, c116_2, e116, hx116_0, hx116_1, hx116_2, hx116_3, hx116_4, hx116_5, hx116_6, hx116_7, hx116_8, hx116_9, hx116_10, hx116_11, hx116_12, hx116_13, hl116_2, hi116_2⟩ := at_T71 HR111_2.out x39_3 p116 q116
                 cases e116
                 replace hx116_0 := up_ HB.out hx116_0
                 replace hx116_1 := up_ HB.out hx116_1
                 replace hx116_2 := up_ HB.out hx116_2
                 replace hx116_3 := up_ HB.out hx116_3
                 replace hx116_4 := up_ HB.out hx116_4
                 replace hx116_5 := up_ HB.out hx116_5
                 replace hx116_6 := up_ HB.out hx116_6
                 replace hx116_7 := up_ HB.out hx116_7
                 replace hx116_8 := up_ HB.out hx116_8
                 replace hx116_9 := up_ HB.out hx116_9
                 replace hx116_10 := up_ HB.out hx116_10
                 replace hx116_11 := up_ HB.out hx116_11
                 replace hx116_12 := up_ HB.out hx116_12
                 replace hx116_13 := up_ HB.out hx116_13
                 have HR116_2 := am hi116_2
                 have HC116_2 := am hl116_2
                 clear hi116_2 hl116_2
                 replace p116 := eq_true p116
                 replace q116 := eq_true q116
                 go_wp2_with (first | ((with_reducible refine gate_dst (N := 9) rfl ?_); refine box_event ?hg (N := 9) ?hd (cs := #[.int .i64 0, .string (⟨#[]⟩ : ByteArray), .slice none 0 0, .string (⟨#[]⟩ : ByteArray), .bool false, .string (⟨#[]⟩ : ByteArray), .bool false, .string (⟨#[]⟩ : ByteArray), .int .i64 0, .bool false, .string (⟨#[]⟩ : ByteArray), .bool false, .string (⟨#[]⟩ : ByteArray), .int .i64 0]) (t := 71) ?hr ?_; (case hd => rfl); (case hg => rfl); (case hr => first | (go_simp; done) | (go_simp; rfl)); intro gb117 hg w27 hbox hb; replace HO_3 := am (Rb_ HO_3.out hb); have BK117 := am (hbox); have GW117 := am (gw_ hg HB.out); have GE117 := GW117; replace HB := am (bs_ HB.out hb); have NB101_117 := am (nb_ hg BK101.out); have NB117_101 := am NB101_117.out.symm; replace BK101 := am (bb_ BK101.out hb); have NB112_117 := am (nb_ hg BK112.out); have NB117_112 := am NB112_117.out.symm; replace BK112 := am (bb_ BK112.out hb); clear hb hbox hg; have hnb28 := NB117_101.out; have hnc28 := NB101_117.out; have hnb29 := NB117_112.out; have hnc29 := NB112_117.out; obtain ⟨hcz30_0, hcz30_1, hcz30_2, hcz30_3, hcz30_4, hcz30_5, hcz30_6, hcz30_7, hcz30_8, hcz30_9, hcz30_10, hcz30_11, hcz30_12, hcz30_13, hfz30_0, hfz30_1, hfz30_2, hfz30_3, hfz30_4, hfz30_5, hfz30_6, hfz30_7, hfz30_8, hfz30_9, hfz30_10, hfz30_11, hfz30_12, hfz30_13⟩ := bc14 BK117.out) | ((with_reducible refine gate_builtin (b := .append) (xs := #[.tmp 51, .tmp 55]) rfl ?_); at_builtin; refine Kd.R_append Kd.string (w0 := w) w.heap.size rfl (.tmp 51) (.tmp 55) 52 9 (.string ⟨#[]⟩) 16 rfl Try.underlying52 info9 rfl (by decide) (by omega) u3 x3_3 ((rd_T71 ((rd_T64 l0_1 x26_2).body) x39_3).atom.pred) [.string ((rd_T71 ((rd_T64 l0_1 x26_2).body) x39_3).atom.pred)] (fun _ => True) (fun _ => False) rfl (by first | (go_simp; done) | (go_simp; rfl)) ?aP (fun _ hk => hk.elim) ?aF ?aO ?aB ?aS ?aL ?_; (case aP => exact rfl); (case aB => exact (pL HB.out)); (case aF => exact (fun _ _ => trivial)); (case aO => exact (by (with_reducible repeat (first | apply Ra | apply Rn | apply Rd)); exact Kd.R_mono (Rf (Rf (Rf (Rf (Rf (Rf (Rf (Rf (Rf (Rf (Rf (Rf (Rf (Rf (Kd.R_types HO_3.out BK117.out (by decide)))))))))))))))) (fun _ hk => trivial))); (case aS => exact (below_size (pL HB.out))); (case aL => have := LMc26.out; omega); intro v119 w31 ho hb hg hat; rw [← Ny118.out] at ho; replace BK101 := am (blk_grown (g := gb101) (o := .cells #[.slice A0_0 l0_0.length c0_0, .slice (some ad111) l0_1.length c0_1] 50 (0, 0)) (pF BK101.out) hg (Kd.R_ne HO_3.out BK101.out (by decide))); replace BK112 := am (blk_grown (g := gb112) (o := .cells #[.string ((rd_T64 l0_1 x26_2).head.pred), .slice A111_1 ((rd_T64 l0_1 x26_2).head.args).length c111_1, .slice (some ad116) ((rd_T64 l0_1 x26_2).body).length c111_2] 64 (0, 0)) (pF BK112.out) hg (Kd.R_ne HO_3.out BK112.out (by decide))); replace BK117 := am (blk_grown (g := gb117) (o := .cells #[.int .i64 ((rd_T71 ((rd_T64 l0_1 x26_2).body) x39_3).kind), .string ((rd_T71 ((rd_T64 l0_1 x26_2).body) x39_3).atom.pred), .slice A116_2 ((rd_T71 ((rd_T64 l0_1 x26_2).body) x39_3).atom.args).length c116_2, .string ((rd_T71 ((rd_T64 l0_1 x26_2).body) x39_3).op), .bool ((rd_T71 ((rd_T64 l0_1 x26_2).body) x39_3).l.isVar), .string ((rd_T71 ((rd_T64 l0_1 x26_2).body) x39_3).l.name), .bool ((rd_T71 ((rd_T64 l0_1 x26_2).body) x39_3).l.val.isSym), .string ((rd_T71 ((rd_T64 l0_1 x26_2).body) x39_3).l.val.sym), .int .i64 ((rd_T71 ((rd_T64 l0_1 x26_2).body) x39_3).l.val.n), .bool ((rd_T71 ((rd_T64 l0_1 x26_2).body) x39_3).r.isVar), .string ((rd_T71 ((rd_T64 l0_1 x26_2).body) x39_3).r.name), .bool ((rd_T71 ((rd_T64 l0_1 x26_2).body) x39_3).r.val.isSym), .string ((rd_T71 ((rd_T64 l0_1 x26_2).body) x39_3).r.val.sym), .int .i64 ((rd_T71 ((rd_T64 l0_1 x26_2).body) x39_3).r.val.n)] 71 (0, 0)) (by (with_reducible repeat (first | refine bN ?_ _ | refine bD ?_ | refine bA ?_ _)); exact bq14 BK117.out) hg (Kd.R_ne HO_3.out BK117.out (by decide))); replace HB := am (hb); have HO120 := am (ho); clear HO_3; clear ho hb hg hat))
                 go_roundg k3
                 case measure => have := HK1.out; have := HK2.out; have := HK3.out; omega
                 case rel => exact ⟨(y118), (wrap64 (x39_3 + 1)), rs_, H', ⟨by have := HK1.out; have := HK2.out; have := HK3.out; omega⟩, ⟨pR HO120.out⟩, ⟨pB BK101.out⟩, ⟨pB BK112.out⟩, ⟨pL HB.out⟩⟩
                ·rw [if_neg c26] at H
                 exact absurd H (by simp)
               ·rw [if_neg c25] at H
                have c25b0 : (((rd_T71 ((rd_T64 l0_1 x26_2).body) x39_3).kind) == 1) = false := beq_eq_false_iff_ne.mpr c25
                have c25b1 : (((rd_T71 ((rd_T64 l0_1 x26_2).body) x39_3).kind) != 1) = true := bne_iff_ne.mpr c25
                by_cases c32 : ((rd_T71 ((rd_T64 l0_1 x26_2).body) x39_3).kind) = 2
                ·rw [if_pos c32] at H
                 have c32b0 : (((rd_T71 ((rd_T64 l0_1 x26_2).body) x39_3).kind) == 2) = true := beq_iff_eq.mpr c32
                 have c32b1 : (((rd_T71 ((rd_T64 l0_1 x26_2).body) x39_3).kind) != 2) = false := bne_eq_false_iff_eq.mpr c32
                 clear c32
                 by_cases c33 : x3_3.length < 8796093022208
                 ·rw [if_pos c33] at H
                  have LMc33 := am c33
                  clear c33
                  obtain ⟨y121, hy121⟩ : ∃ y_ : List ByteArray, y_ = (x3_3 ++ [(rd_T71 ((rd_T64 l0_1 x26_2).body) x39_3).atom.pred]) := ⟨_, rfl⟩
                  replace H : (strata_Preds.l2 k3 y121 l0_1 (l0_1.length : Int) x26_2 ((rd_T64 l0_1 x26_2).body) (((rd_T64 l0_1 x26_2).body).length : Int) (wrap64 (x39_3 + 1))) = some r := by first | (rw [hy121]; with_reducible exact H) | (have H2_ := (Option.bind_some _ _).symm.trans H; rw [hy121]; with_reducible exact H2_) | (have H2_ := (Option.bind_some _ _).symm.trans H; with_reducible exact H2_) | with_reducible exact H | (rw [hy121]; exact H) | exact H
                  have Ny121 := am hy121
                  clear hy121
                  have H' := am H
                  clear H
                  have p116 : 0 ≤ (x39_3 : Int) := dt_
                  have q116 : x39_3 < (((rd_T64 l0_1 x26_2).body).length : Int) := dt_
                  obtain ⟨ad116, A116_2, c116_2, e116, hx116_0, hx116_1, hx116_2, hx116_3, hx116_4, hx116_5, hx116_6, hx116_7, hx116_8, hx116_9, hx116_10, hx116_11, hx116_12, hx116_13, hl116_2, hi116_2⟩ := at_T71 HR111_2.out x39_3 p116 q116
                  cases e116
                  replace hx116_0 := up_ HB.out hx116_0
                  replace hx116_1 := up_ HB.out hx116_1
                  replace hx116_2 := up_ HB.out hx116_2
                  replace hx116_3 := up_ HB.out hx116_3
                  replace hx116_4 := up_ HB.out hx116_4
                  replace hx116_5 := up_ HB.out hx116_5
                  replace hx116_6 := up_ HB.out hx116_6
                  replace hx116_7 := up_ HB.out hx116_7
                  replace hx116_8 := up_ HB.out hx116_8
                  replace hx116_9 := up_ HB.out hx116_9
                  replace hx116_10 := up_ HB.out hx116_10
                  replace hx116_11 := up_ HB.out hx116_11
                  replace hx116_12 := up_ HB.out hx116_12
                  replace hx116_13 := up_ HB.out hx116_13
                  have HR116_2 := am hi116_2
                  have HC116_2 := am hl116_2
                  clear hi116_2 hl116_2
                  replace p116 := eq_true p116
                  replace q116 := eq_true q116
                  go_wp2_with (first | ((with_reducible refine gate_dst (N := 9) rfl ?_); refine box_event ?hg (N := 9) ?hd (cs := #[.int .i64 0, .string (⟨#[]⟩ : ByteArray), .slice none 0 0, .string (⟨#[]⟩ : ByteArray), .bool false, .string (⟨#[]⟩ : ByteArray), .bool false, .string (⟨#[]⟩ : ByteArray), .int .i64 0, .bool false, .string (⟨#[]⟩ : ByteArray), .bool false, .string (⟨#[]⟩ : ByteArray), .int .i64 0]) (t := 71) ?hr ?_; (case hd => rfl); (case hg => rfl); (case hr => first | (go_simp; done) | (go_simp; rfl)); intro gb117 hg w34 hbox hb; replace HO_3 := am (Rb_ HO_3.out hb); have BK117 := am (hbox); have GW117 := am (gw_ hg HB.out); have GE117 := GW117; replace HB := am (bs_ HB.out hb); have NB101_117 := am (nb_ hg BK101.out); have NB117_101 := am NB101_117.out.symm; replace BK101 := am (bb_ BK101.out hb); have NB112_117 := am (nb_ hg BK112.out); have NB117_112 := am NB112_117.out.symm; replace BK112 := am (bb_ BK112.out hb); clear hb hbox hg; have hnb35 := NB117_101.out; have hnc35 := NB101_117.out; have hnb36 := NB117_112.out; have hnc36 := NB112_117.out; obtain ⟨hcz37_0, hcz37_1, hcz37_2, hcz37_3, hcz37_4, hcz37_5, hcz37_6, hcz37_7, hcz37_8, hcz37_9, hcz37_10, hcz37_11, hcz37_12, hcz37_13, hfz37_0, hfz37_1, hfz37_2, hfz37_3, hfz37_4, hfz37_5, hfz37_6, hfz37_7, hfz37_8, hfz37_9, hfz37_10, hfz37_11, hfz37_12, hfz37_13⟩ := bc14 BK117.out) | ((with_reducible refine gate_builtin (b := .append) (xs := #[.tmp 51, .tmp 55]) rfl ?_); at_builtin; refine Kd.R_append Kd.string (w0 := w) w.heap.size rfl (.tmp 51) (.tmp 55) 52 9 (.string ⟨#[]⟩) 16 rfl Try.underlying52 info9 rfl (by decide) (by omega) u3 x3_3 ((rd_T71 ((rd_T64 l0_1 x26_2).body) x39_3).atom.pred) [.string ((rd_T71 ((rd_T64 l0_1 x26_2).body) x39_3).atom.pred)] (fun _ => True) (fun _ => False) rfl (by first | (go_simp; done) | (go_simp; rfl)) ?aP (fun _ hk => hk.elim) ?aF ?aO ?aB ?aS ?aL ?_; (case aP => exact rfl); (case aB => exact (pL HB.out)); (case aF => exact (fun _ _ => trivial)); (case aO => exact (by (with_reducible repeat (first | apply Ra | apply Rn | apply Rd)); exact Kd.R_mono (Rf (Rf (Rf (Rf (Rf (Rf (Rf (Rf (Rf (Rf (Rf (Rf (Rf (Rf (Kd.R_types HO_3.out BK117.out (by decide)))))))))))))))) (fun _ hk => trivial))); (case aS => exact (below_size (pL HB.out))); (case aL => have := LMc33.out; omega); intro v122 w38 ho hb hg hat; rw [← Ny121.out] at ho; replace BK101 := am (blk_grown (g := gb101) (o := .cells #[.slice A0_0 l0_0.length c0_0, .slice (some ad111) l0_1.length c0_1] 50 (0, 0)) (pF BK101.out) hg (Kd.R_ne HO_3.out BK101.out (by decide))); replace BK112 := am (blk_grown (g := gb112) (o := .cells #[.string ((rd_T64 l0_1 x26_2).head.pred), .slice A111_1 ((rd_T64 l0_1 x26_2).head.args).length c111_1, .slice (some ad116) ((rd_T64 l0_1 x26_2).body).length c111_2] 64 (0, 0)) (pF BK112.out) hg (Kd.R_ne HO_3.out BK112.out (by decide))); replace BK117 := am (blk_grown (g := gb117) (o := .cells #[.int .i64 ((rd_T71 ((rd_T64 l0_1 x26_2).body) x39_3).kind), .string ((rd_T71 ((rd_T64 l0_1 x26_2).body) x39_3).atom.pred), .slice A116_2 ((rd_T71 ((rd_T64 l0_1 x26_2).body) x39_3).atom.args).length c116_2, .string ((rd_T71 ((rd_T64 l0_1 x26_2).body) x39_3).op), .bool ((rd_T71 ((rd_T64 l0_1 x26_2).body) x39_3).l.isVar), .string ((rd_T71 ((rd_T64 l0_1 x26_2).body) x39_3).l.name), .bool ((rd_T71 ((rd_T64 l0_1 x26_2).body) x39_3).l.val.isSym), .string ((rd_T71 ((rd_T64 l0_1 x26_2).body) x39_3).l.val.sym), .int .i64 ((rd_T71 ((rd_T64 l0_1 x26_2).body) x39_3).l.val.n), .bool ((rd_T71 ((rd_T64 l0_1 x26_2).body) x39_3).r.isVar), .string ((rd_T71 ((rd_T64 l0_1 x26_2).body) x39_3).r.name), .bool ((rd_T71 ((rd_T64 l0_1 x26_2).body) x39_3).r.val.isSym), .string ((rd_T71 ((rd_T64 l0_1 x26_2).body) x39_3).r.val.sym), .int .i64 ((rd_T71 ((rd_T64 l0_1 x26_2).body) x39_3).r.val.n)] 71 (0, 0)) (by (with_reducible repeat (first | refine bN ?_ _ | refine bD ?_ | refine bA ?_ _)); exact bq14 BK117.out) hg (Kd.R_ne HO_3.out BK117.out (by decide))); replace HB := am (hb); have HO123 := am (ho); clear HO_3; clear ho hb hg hat))
                  go_roundg k3
                  case measure => have := HK1.out; have := HK2.out; have := HK3.out; omega
                  case rel => exact ⟨(y121), (wrap64 (x39_3 + 1)), rs_, H', ⟨by have := HK1.out; have := HK2.out; have := HK3.out; omega⟩, ⟨pR HO123.out⟩, ⟨pB BK101.out⟩, ⟨pB BK112.out⟩, ⟨pL HB.out⟩⟩
                 ·rw [if_neg c33] at H
                  exact absurd H (by simp)
                ·rw [if_neg c32] at H
                 have c32b0 : (((rd_T71 ((rd_T64 l0_1 x26_2).body) x39_3).kind) == 2) = false := beq_eq_false_iff_ne.mpr c32
                 have c32b1 : (((rd_T71 ((rd_T64 l0_1 x26_2).body) x39_3).kind) != 2) = true := bne_iff_ne.mpr c32
                 have H' := am H
                 clear H
                 have p116 : 0 ≤ (x39_3 : Int) := dt_
                 have q116 : x39_3 < (((rd_T64 l0_1 x26_2).body).length : Int) := dt_
                 obtain ⟨ad116, A116_2, c116_2, e116, hx116_0, hx116_1, hx116_2, hx116_3, hx116_4, hx116_5, hx116_6, hx116_7, hx116_8, hx116_9, hx116_10, hx116_11, hx116_12, hx116_13, hl116_2, hi116_2⟩ := at_T71 HR111_2.out x39_3 p116 q116
                 cases e116
                 replace hx116_0 := up_ HB.out hx116_0
                 replace hx116_1 := up_ HB.out hx116_1
                 replace hx116_2 := up_ HB.out hx116_2
                 replace hx116_3 := up_ HB.out hx116_3
                 replace hx116_4 := up_ HB.out hx116_4
                 replace hx116_5 := up_ HB.out hx116_5
                 replace hx116_6 := up_ HB.out hx116_6
                 replace hx116_7 := up_ HB.out hx116_7
                 replace hx116_8 := up_ HB.out hx116_8
                 replace hx116_9 := up_ HB.out hx116_9
                 replace hx116_10 := up_ HB.out hx116_10
                 replace hx116_11 := up_ HB.out hx116_11
                 replace hx116_12 := up_ HB.out hx116_12
                 replace hx116_13 := up_ HB.out hx116_13
                 have HR116_2 := am hi116_2
                 have HC116_2 := am hl116_2
                 clear hi116_2 hl116_2
                 replace p116 := eq_true p116
                 replace q116 := eq_true q116
                 go_wp2_with (first | ((with_reducible refine gate_dst (N := 9) rfl ?_); refine box_event ?hg (N := 9) ?hd (cs := #[.int .i64 0, .string (⟨#[]⟩ : ByteArray), .slice none 0 0, .string (⟨#[]⟩ : ByteArray), .bool false, .string (⟨#[]⟩ : ByteArray), .bool false, .string (⟨#[]⟩ : ByteArray), .int .i64 0, .bool false, .string (⟨#[]⟩ : ByteArray), .bool false, .string (⟨#[]⟩ : ByteArray), .int .i64 0]) (t := 71) ?hr ?_; (case hd => rfl); (case hg => rfl); (case hr => first | (go_simp; done) | (go_simp; rfl)); intro gb117 hg w39 hbox hb; replace HO_3 := am (Rb_ HO_3.out hb); have BK117 := am (hbox); have GW117 := am (gw_ hg HB.out); have GE117 := GW117; replace HB := am (bs_ HB.out hb); have NB101_117 := am (nb_ hg BK101.out); have NB117_101 := am NB101_117.out.symm; replace BK101 := am (bb_ BK101.out hb); have NB112_117 := am (nb_ hg BK112.out); have NB117_112 := am NB112_117.out.symm; replace BK112 := am (bb_ BK112.out hb); clear hb hbox hg; have hnb40 := NB117_101.out; have hnc40 := NB101_117.out; have hnb41 := NB117_112.out; have hnc41 := NB112_117.out; obtain ⟨hcz42_0, hcz42_1, hcz42_2, hcz42_3, hcz42_4, hcz42_5, hcz42_6, hcz42_7, hcz42_8, hcz42_9, hcz42_10, hcz42_11, hcz42_12, hcz42_13, hfz42_0, hfz42_1, hfz42_2, hfz42_3, hfz42_4, hfz42_5, hfz42_6, hfz42_7, hfz42_8, hfz42_9, hfz42_10, hfz42_11, hfz42_12, hfz42_13⟩ := bc14 BK117.out))
                 go_roundg k3
                 case measure => have := HK1.out; have := HK2.out; have := HK3.out; omega
                 case rel => exact ⟨(x3_3), (wrap64 (x39_3 + 1)), rs_, H', ⟨by have := HK1.out; have := HK2.out; have := HK3.out; omega⟩, ⟨by (with_reducible repeat (first | apply Ra | apply Rn | apply Rd)); exact Kd.R_mono (Rf (Rf (Rf (Rf (Rf (Rf (Rf (Rf (Rf (Rf (Rf (Rf (Rf (Rf (Kd.R_types HO_3.out BK117.out (by decide)))))))))))))))) (fun _ hk => trivial)⟩, ⟨pF BK101.out⟩, ⟨pF BK112.out⟩, ⟨pL HB.out⟩⟩
              ·rw [if_neg c24] at H
               exact absurd H (by simp)
             ·rw [if_neg c23] at H
              exact absurd H (by simp)
            ·rw [if_neg c22] at H
             have c22b0 : decide (x39_3 < (((rd_T64 l0_1 x26_2).body).length : Int)) = false := decide_eq_false c22
             clear c22
             have H' := am H
             clear H
             go_wp2
             go_roundg k3
             case measure => have := HK1.out; have := HK2.out; have := HK3.out; omega
             case rel => exact ⟨(x3_3), (wrap64 (x26_2 + 1)), rs_, H', ⟨by have := HK1.out; have := HK2.out; have := HK3.out; omega⟩, ⟨pR HO_3.out⟩, ⟨pB BK101.out⟩, ⟨pL HB.out⟩⟩
         ·rw [if_neg c16] at H
          exact absurd H (by simp)
        ·rw [if_neg c15] at H
         exact absurd H (by simp)
       ·rw [if_neg c14] at H
        exact absurd H (by simp)
      ·rw [if_neg c13] at H
       have c13b0 : decide (x26_2 < (l0_1.length : Int)) = false := decide_eq_false c13
       clear c13
       replace H := Option.bind_eq_some_iff.mp H
       obtain ⟨t107, A430, H⟩ := H
       replace H : ((slices_Compact_string_string.f t107).bind fun t108 => (some t108)) = some r := H
       have A43 := am A430
       clear A430
       replace H := Option.bind_eq_some_iff.mp H
       obtain ⟨t108, A440, H⟩ := H
       replace H : (some t108) = some r := H
       have A44 := am A440
       clear A440
       obtain rfl := Option.some.inj H
       obtain ⟨Ao45, co45, eo45⟩ := Kd.R_slice HO_3.out
       subst eo45
       go_wp2_with (first | ((with_reducible refine gate_callee (f := 55) rfl ?_); refine goesL_ (some 60) rfl rfl Try.func55 (by kernel_rfl) rfl #[.slice Ao45 x3_2.length co45] rfl (by (try simp only [List.map_toArray, List.map_cons, List.map_nil]); first | done | rfl | (simp only [List.length_drop, List.length_take]; rfl)) ?_; (with_reducible refine (slices_Sort_string_string.calls (fun k_ => some k_ = (.slice Ao45 x3_2.length co45 : Value).ownBlock) (.slice Ao45 x3_2.length co45) x3_2 t107 w _ ?side1 ?side2 A43.out).mono ?_); (case side1 => repeat (first | (with_reducible first | exact HB.out | apply lA | apply lN | apply lD | refine lS ?_ GE101.out) | exact HB.out)); (case side2 => exact Kd.R_tight rfl HO_3.out); rintro e w46 ⟨rfl, hy0, hb, hkp⟩; refine ⟨_, rfl, ?_⟩; replace BK101 := am (blk_kept (pB BK101.out) hkp (fun hs_ => (fun e_ => (Kd.R_ne HO_3.out BK101.out (by decide)) e_) hs_)); replace HO_3 := am (Kd.R_reok rfl hy0 (fun k_ e_ => HO_3.out.1 k_ e_)); replace HB := am (hb); (try clear hb); (try clear hkp); (try clear hy0)) | ((with_reducible refine gate_callee (f := 56) rfl ?_); refine goesL_ (some 62) rfl rfl Try.func56 (by kernel_rfl) rfl #[.slice Ao45 x3_2.length co45] rfl (by (try simp only [List.map_toArray, List.map_cons, List.map_nil]); first | done | rfl | (simp only [List.length_drop, List.length_take]; rfl)) ?_; (with_reducible refine (slices_Compact_string_string.calls (fun k_ => some k_ = (.slice Ao45 x3_2.length co45 : Value).ownBlock) (.slice Ao45 x3_2.length co45) t107 t108 w _ ?side1 ?side2 A44.out).mono ?_); (case side1 => repeat (first | (with_reducible first | exact HB.out | apply lA | apply lN | apply lD | refine lS ?_ GE101.out) | exact HB.out)); (case side2 => exact Kd.R_tight rfl HO_3.out); rintro e w47 ⟨v109, rfl, ho0, hb, hkp⟩; refine ⟨_, rfl, ?_⟩; replace BK101 := am (blk_kept (pB BK101.out) hkp (fun hs_ => (fun e_ => (Kd.R_ne HO_3.out BK101.out (by decide)) e_) hs_)); have HO110 := am (Kd.R_mono (ok' := fun k_ => True) ho0 (fun k_ hk_ => trivial)); replace HB := am (hb); clear HO_3; (try clear hb); (try clear hkp); (try clear ho0)))
       go_ret
       exact ⟨_, by first | rfl | (simp [errW_none, errW_some] <;> rfl) | (simp [*, errW_none, errW_some] <;> rfl), by (with_reducible repeat (first | apply Ra | apply Rn | apply Rd)); exact HO110.out, pL HB.out⟩
def strata_ring.l0 : Nat → Int → List (IPair) → List (IPair) → Int → Int → Option (List Int)
 | 0, _, _, _, _, _ => none
 | k + 1, x0, x1, x18, x19, x20 => if x20 < x19 then (if 0 ≤ x20 then (if x20 < (x18.length : Int) then ((graph_Path.f k x0 x1 ((rd_T27 x18 x20).snd) ((rd_T27 x18 x20).fst)).bind fun t107 => (if 0 < (t107.length : Int) then ((some (([(rd_T27 x18 x20).fst] : List Int) : List Int)).bind fun y110 => (if y110.length + t107.length < 17592186044416 then (some (y110 ++ t107)) else (none))) else (strata_ring.l0 k x0 x1 x18 x19 (wrap64 (x20 + 1))))) else (none)) else (none)) else (some ([] : List Int))
def strata_ring.f (k : Nat) (a0 : Int) (l1 : List (IPair)) (l2 : List (IPair)) : Option (List Int) := (graph_Clean.f a0 l2).bind fun bt101 => (strata_ring.l0 k a0 l1 bt101.1 (bt101.1.length : Int) 0)
theorem strata_ring.mono_l : ∀ k, (∀ y0 y1 y2 y3 y4, LeO (strata_ring.l0 k y0 y1 y2 y3 y4) (strata_ring.l0 (k + 1) y0 y1 y2 y3 y4))
 | 0 => fun _ _ _ _ _ r h => by simp [strata_ring.l0] at h
 | k + 1 => by
  have ih0 := strata_ring.mono_l k
  ·intro y0 y1 y2 y3 y4
   unfold strata_ring.l0
   repeat' first
   | (with_reducible exact ih0 _ _ _ _ _)
   | (with_reducible exact graph_Path.mono _ _ _ _ _)
   | (with_reducible exact LeO.refl _)
   | (with_reducible exact LeO.none _)
   | (with_reducible refine LeO.ite ?_ ?_)
   | (with_reducible refine LeO.bind ?_ (fun _ => ?_))
   | exact ih0 _ _ _ _ _
   | exact graph_Path.mono _ _ _ _ _
   | exact LeO.none _
   | refine LeO.ite ?_ ?_
   | refine LeO.bind ?_ (fun _ => ?_)
theorem strata_ring.mono : ∀ a0 a1 a2 k, LeO (strata_ring.f k a0 a1 a2) (strata_ring.f (k + 1) a0 a1 a2) := by
 intro a0 a1 a2 k
 have ih0 := strata_ring.mono_l k
 unfold strata_ring.f
 repeat' first
   | (with_reducible exact ih0 _ _ _ _ _)
   | (with_reducible exact graph_Path.mono _ _ _ _ _)
   | (with_reducible exact LeO.refl _)
   | (with_reducible exact LeO.none _)
   | (with_reducible refine LeO.ite ?_ ?_)
   | (with_reducible refine LeO.bind ?_ (fun _ => ?_))
   | exact ih0 _ _ _ _ _
   | exact graph_Path.mono _ _ _ _ _
   | exact LeO.none _
   | refine LeO.ite ?_ ?_
   | refine LeO.bind ?_ (fun _ => ?_)
set_option maxHeartbeats 8000000 in
set_option maxRecDepth 100000 in
theorem strata_ring.calls (k : Nat) (a0 : Int) (A1 : Option Addr) (c1 : Nat) (l1 : List (IPair)) (A2 : Option Addr) (c2 : Nat) (l2 : List (IPair)) (r : List Int) (w : World) (hr1 : Kd.C k27 w A1 l1.length l1) (hc1 : l1.length ≤ c1) (hr2 : Kd.C k27 w A2 l2.length l2) (hc2 : l2.length ≤ c2) (h : strata_ring.f k a0 l1 l2 = some r) :
  Calls Try.prog 53 #[.int .i64 a0, .slice A1 l1.length c1, .slice A2 l2.length c2] w fun e w' => ∃ v0_ : Value, e = .returned (v0_) ∧ Kd.R (Kd.int .i64) 3 w' w.heap.size (fun _ => True) v0_ r ∧ Below w.heap.size w w' ∧ (r = [] → v0_ = .slice none 0 0) := by
 have hu27 := Try.underlying27
 have nq_ : ∀ (W : World) (a : Option Addr) (l c : Nat), (binOp .neq 35 (.slice a l c) (.slice none 0 0)).run Try.prog W = .ok (.bool (!a.isNone)) W := fun W a l c => run_neq_slice_nil W 35 _ a l c Try.underlying35
 have HR1 := Aside0.mk hr1
 have HC1 := Aside0.mk hc1
 clear hr1 hc1
 have HR2 := Aside0.mk hr2
 have HC2 := Aside0.mk hc2
 clear hr2 hc2
 have HB := Aside0.mk (Below.refl w.heap.size w)
 have H : ((graph_Clean.f a0 l2).bind fun bt101 => (strata_ring.l0 k a0 l1 bt101.1 (bt101.1.length : Int) 0)) = some r := h
 clear h
 replace H := Option.bind_eq_some_iff.mp H
 obtain ⟨⟨t101, t102⟩, A40, H⟩ := H
 replace H : (strata_ring.l0 k a0 l1 t101 (t101.length : Int) 0) = some r := H
 have A4 := Aside0.mk A40
 clear A40
 have H' := Aside0.mk H
 clear H
 go_enter Try.func53, Try.ntmps53
 go_wp2_with (first | ((with_reducible refine gate_callee (f := 16) rfl ?_); refine goesL_ (some 15) rfl rfl Try.func16 (by kernel_rfl) rfl #[.int .i64 a0, .slice A2 l2.length c2] rfl (by (try simp only [List.map_toArray, List.map_cons, List.map_nil]); first | done | rfl | (simp only [List.length_drop, List.length_take]; rfl)) ?_; (with_reducible refine (graph_Clean.calls a0 _ _ l2 t101 t102 _ ?side1 ?side2 A4.out).mono ?_); (case side1 => repeat (first | exact HR2.out | (with_reducible refine Kd.C_alloc ?_ _) | (with_reducible refine Kd.C_drewN ?_ _) | (with_reducible refine Kd.C_drew ?_))); (case side2 => exact HC2.out); rintro e w5 ⟨v103, rfl, ho0, hb⟩; refine ⟨_, rfl, ?_⟩; have n0_ := Aside0.mk (Kd.R_lower ho0 (below_size (by repeat (first | (with_reducible first | exact HB.out | apply below_alloc | apply pw_below_drewN | apply below_drew1) | exact HB.out)))); have n1_ := Aside0.mk (below_step (by repeat (first | (with_reducible first | exact HB.out | apply below_alloc | apply pw_below_drewN | apply below_drew1) | exact HB.out)) hb); clear HB; have HO104 := n0_; have HB := n1_; clear n0_ n1_; (try clear hb); (try clear hb2); (try clear hk); (try clear hi); (try clear ho0); obtain ⟨Ao6, co6, eo6⟩ := Kd.R_slice HO104.out; subst eo6))
 go_loopg [20] k (fun kq v20 w' => ∃ (x20_1 : Int), v20 = .int .i64 x20_1 ∧ Aside0 (strata_ring.l0 kq a0 l1 t101 (t101.length : Int) x20_1 = some r) ∧ Aside0 (kq ≤ k) ∧ Aside0 (Kd.R k27 27 w' w.heap.size (fun _ => True) (.slice Ao6 t101.length co6) t101) ∧ Aside0 (Below w.heap.size w w'))
 case atStart => exact ⟨(0), (by first | rfl | (simp; done) | (simp [*]; done)), H', ⟨Nat.le_refl _⟩, ⟨by (with_reducible repeat (first | apply Kd.R_alloc | apply Kd.R_drewN | apply Kd.R_drew)); exact HO104.out⟩, ⟨by repeat (first | (with_reducible first | exact HB.out | apply below_alloc | apply pw_below_drewN | apply below_drew1) | exact HB.out)⟩⟩
 case round =>
  clear H'
  try clear c1
  try clear c2
  try clear p2
  try clear c5
  obtain ⟨x20_1, rfl, HA, HK1, HO_18, HB⟩ := hrel
  cases gk with
  | zero => exact absurd HA.out (by simp [strata_ring.l0])
  | succ k1 =>
   have H := HA.out
   clear HA
   simp only [strata_ring.l0] at H
   by_cases c7 : x20_1 < (t101.length : Int)
   ·rw [if_pos c7] at H
    have c7b0 : decide (x20_1 < (t101.length : Int)) = true := decide_eq_true c7
    clear c7
    by_cases c8 : 0 ≤ x20_1
    ·rw [if_pos c8] at H
     have c8b0 : decide (0 ≤ x20_1) = true := decide_eq_true c8
     clear c8
     by_cases c9 : x20_1 < (t101.length : Int)
     ·rw [if_pos c9] at H
      have c9b0 : decide (x20_1 < (t101.length : Int)) = true := decide_eq_true c9
      clear c9
      replace H := Option.bind_eq_some_iff.mp H
      obtain ⟨t107, A100, H⟩ := H
      replace H : (if 0 < (t107.length : Int) then ((some (([(rd_T27 t101 x20_1).fst] : List Int) : List Int)).bind fun y110 => (if y110.length + t107.length < 17592186044416 then (some (y110 ++ t107)) else (none))) else (strata_ring.l0 k1 a0 l1 t101 (t101.length : Int) (wrap64 (x20_1 + 1)))) = some r := H
      have A10 := Aside0.mk A100
      clear A100
      by_cases c11 : 0 < (t107.length : Int)
      ·rw [if_pos c11] at H
       have c11b0 : decide (0 < (t107.length : Int)) = true := decide_eq_true c11
       have c11b1 : decide (0 < t107.length) = true := decide_eq_true (by omega)
       clear c11
       obtain ⟨y110, hy110⟩ : ∃ y_ : List Int, y_ = (([(rd_T27 t101 x20_1).fst] : List Int)) := ⟨_, rfl⟩
       replace H : (if y110.length + t107.length < 17592186044416 then (some (y110 ++ t107)) else (none)) = some r := by first | (rw [hy110]; with_reducible exact H) | (have H2_ := (Option.bind_some _ _).symm.trans H; rw [hy110]; with_reducible exact H2_) | (have H2_ := (Option.bind_some _ _).symm.trans H; with_reducible exact H2_) | with_reducible exact H | (rw [hy110]; exact H) | exact H
       have Ny110 := Aside0.mk hy110
       clear hy110
       by_cases c12 : y110.length + t107.length < 17592186044416
       ·rw [if_pos c12] at H
        have LMc12 := Aside0.mk c12
        clear c12
        obtain ⟨y113, hy113⟩ : ∃ y_ : List Int, y_ = (y110 ++ t107) := ⟨_, rfl⟩
        replace H : (some y113) = some r := by first | (rw [hy113]; with_reducible exact H) | (have H2_ := (Option.bind_some _ _).symm.trans H; rw [hy113]; with_reducible exact H2_) | (have H2_ := (Option.bind_some _ _).symm.trans H; with_reducible exact H2_) | with_reducible exact H | (rw [hy113]; exact H) | exact H
        have Ny113 := Aside0.mk hy113
        clear hy113
        obtain rfl := Option.some.inj H
        have p105 : 0 ≤ (x20_1 : Int) := of_decide_eq_true (by first | (with_reducible assumption) | assumption)
        have q105 : x20_1 < (t101.length : Int) := of_decide_eq_true (by first | (with_reducible assumption) | assumption)
        obtain ⟨ad105, e105, hx105_0, hx105_1⟩ := at_T27 (Kd.R_reads' HO_18.out).2.2 x20_1 p105 q105
        cases e105
        replace p105 := eq_true p105
        replace q105 := eq_true q105
        go_wp2_with (first | ((with_reducible refine gate_dst (N := 10) rfl ?_); refine box_event ?hg (N := 10) ?hd (cs := #[.int .i64 0, .int .i64 0]) (t := 27) ?hr ?_; (case hd => rfl); (case hg => rfl); (case hr => first | (go_simp; done) | (go_simp; rfl)); intro gb106 hg w13 hbox hb; have n0_ := Aside0.mk (Kd.R_below (Kd.R_elderB (by (with_reducible repeat (first | apply Kd.R_alloc | apply Kd.R_drewN | apply Kd.R_drew)); exact HO_18.out) gb106 (Nat.le_of_eq hg.symm)) hb); have n1_ := Aside0.mk (below_step (by repeat (first | (with_reducible first | exact HB.out | apply below_alloc | apply pw_below_drewN | apply below_drew1) | exact HB.out)) hb); have n2_ := Aside0.mk (hbox); have n3_ := Aside0.mk ((by rw [hg]; exact (below_size (by repeat (first | (with_reducible first | exact HB.out | apply below_alloc | apply pw_below_drewN | apply below_drew1) | exact HB.out))) : w.heap.size ≤ gb106)); have n4_ := Aside0.mk ((by rw [hg]; exact (below_size (by repeat (first | (with_reducible first | exact HB.out | apply below_alloc | apply pw_below_drewN | apply below_drew1) | exact HB.out))) : w.heap.size ≤ gb106)); clear HO_18; clear HB; have HO_18 := n0_; have HB := n1_; have BK106 := n2_; have GW106 := n3_; have GE106 := n4_; clear n0_ n1_ n2_ n3_ n4_; clear hb hbox hg; have hcz14_0 : w13.cell? ⟨gb106, 0, none⟩ = some (.int .i64 0) := (blk_cell BK106.out 0).trans rfl; have hcz14_1 : w13.cell? ⟨gb106, 1, none⟩ = some (.int .i64 0) := (blk_cell BK106.out 1).trans rfl; have hfz14_0 := blk_frozen BK106.out 0; have hfz14_1 := blk_frozen BK106.out 1) | ((with_reducible refine gate_callee (f := 20) rfl ?_); refine goesL_ (some 30) rfl rfl Try.func20 (by kernel_rfl) rfl #[.int .i64 a0, .slice A1 l1.length c1, .int .i64 ((rd_T27 t101 x20_1).snd), .int .i64 ((rd_T27 t101 x20_1).fst)] rfl (by (try simp only [List.map_toArray, List.map_cons, List.map_nil]); first | done | rfl | (simp only [List.length_drop, List.length_take]; rfl)) ?_; (with_reducible refine (graph_Path.callsN k1 a0 _ _ l1 ((rd_T27 t101 x20_1).snd) ((rd_T27 t101 x20_1).fst) t107 _ ?side1 ?side2 A10.out).mono ?_); (case side1 => exact Kd.C_below HR1.out (by repeat (first | (with_reducible first | exact HB.out | apply below_alloc | apply pw_below_drewN | apply below_drew1 | refine below_set ?_ GE106.out) | exact HB.out))); (case side2 => exact HC1.out); rintro e w15 ⟨v108, rfl, ho0, hb, hnil_⟩; refine ⟨_, rfl, ?_⟩; have n0_ := Aside0.mk (Kd.R_below (by (with_reducible repeat (first | apply Kd.R_alloc | apply Kd.R_drewN | apply Kd.R_drew)); exact (Kd.R_mono (Kd.R_far (p := ⟨gb106, 1, none⟩) (Kd.R_far (p := ⟨gb106, 0, none⟩) (Kd.R_mono HO_18.out (fun k_ hk => (⟨hk, hk.2⟩ : _ ∧ k_ ≠ gb106))) (fun _ hk => hk.2) _) (fun _ hk => hk.2) _) (fun _ h_ => h_.1))) hb); have n1_ := Aside0.mk (Kd.R_lower ho0 (below_size (by repeat (first | (with_reducible first | exact HB.out | apply below_alloc | apply pw_below_drewN | apply below_drew1 | refine below_set ?_ GE106.out) | exact HB.out)))); have n2_ := Aside0.mk (blk_below (g := gb106) (o := .cells #[.int .i64 ((rd_T27 t101 x20_1).fst), .int .i64 ((rd_T27 t101 x20_1).snd)] 27 (0, 0)) (by (with_reducible repeat (first | refine blk_drewN ?_ _ | refine blk_drew ?_ | refine blk_alloc ?_ _)); refine blk_put (cs := #[.int .i64 ((rd_T27 t101 x20_1).fst), .int .i64 0]) ?_ 1 _ rfl; (with_reducible repeat (first | refine blk_drewN ?_ _ | refine blk_drew ?_ | refine blk_alloc ?_ _)); refine blk_put (cs := #[.int .i64 0, .int .i64 0]) ?_ 0 _ rfl; (with_reducible repeat (first | refine blk_drewN ?_ _ | refine blk_drew ?_ | refine blk_alloc ?_ _)); exact BK106.out) hb); have n3_ := Aside0.mk (below_step (by repeat (first | (with_reducible first | exact HB.out | apply below_alloc | apply pw_below_drewN | apply below_drew1 | refine below_set ?_ GE106.out) | exact HB.out)) hb); clear HO_18; clear BK106; clear HB; have HO_18 := n0_; have HO109 := n1_; have BK106 := n2_; have HB := n3_; clear n0_ n1_ n2_ n3_; (try clear hb); (try clear hb2); (try clear hk); (try clear hi); (try clear ho0); obtain ⟨Ao20, co20, eo20⟩ := Kd.R_slice HO109.out; subst eo20; have hs_ := isSome_of HO109.out c11b0; (try clear hnil_); have hcz16_0 : w15.cell? ⟨gb106, 0, none⟩ = some (.int .i64 ((rd_T27 t101 x20_1).fst)) := (blk_cell BK106.out 0).trans rfl; have hcz16_1 : w15.cell? ⟨gb106, 1, none⟩ = some (.int .i64 ((rd_T27 t101 x20_1).snd)) := (blk_cell BK106.out 1).trans rfl; have hfz16_0 := blk_frozen BK106.out 0; have hfz16_1 := blk_frozen BK106.out 1) | ((with_reducible refine gate_dst (N := 35) rfl ?_); refine Kd.R_lit (Kd.int .i64) _ 3 ?hg (N := 35) ?hd (xs := ([(rd_T27 t101 x20_1).fst] : List Int)) (inner := [.int .i64 ((rd_T27 t101 x20_1).fst)]) (ok := fun _ => True) (okp := fun _ => True) ?hr ?hp (fun _ hk => hk) trivial (Below.refl _ _) (Nat.le_refl _) (by simp) ?_; (case hd => rfl); (case hg => rfl); (case hr => first | (go_simp; done) | (go_simp; rfl)); (case hp => exact (Reps.one (show Kd.M (Kd.int .i64) _ _ _ ((rd_T27 t101 x20_1).fst) [.int .i64 ((rd_T27 t101 x20_1).fst)] from rfl) (Reps.none _ _))); intro v111 w17 ho18 hb hg_ hnew_; clear hg_ hnew_; (first | rw [← Ny110.out] at ho18 | (simp only [Int.reduceToNat] at ho18; rw [← Ny110.out] at ho18)); have n0_ := Aside0.mk (Kd.R_below (by (with_reducible repeat (first | apply Kd.R_alloc | apply Kd.R_drewN | apply Kd.R_drew)); exact HO_18.out) hb); have n1_ := Aside0.mk (Kd.R_elder' (by (with_reducible repeat (first | apply Kd.R_alloc | apply Kd.R_drewN | apply Kd.R_drew)); exact HO109.out) (Kd.R_base ho18) hb); have n2_ := Aside0.mk (Kd.R_lower (Kd.R_new' ho18 (Kd.R_lt (by (with_reducible repeat (first | apply Kd.R_alloc | apply Kd.R_drewN | apply Kd.R_drew)); exact HO109.out))) (below_size (by repeat (first | (with_reducible first | exact HB.out | apply below_alloc | apply pw_below_drewN | apply below_drew1 | refine below_set ?_ GE106.out) | exact HB.out)))); have n3_ := Aside0.mk (blk_below (g := gb106) (o := .cells #[.int .i64 ((rd_T27 t101 x20_1).fst), .int .i64 ((rd_T27 t101 x20_1).snd)] 27 (0, 0)) (by (with_reducible repeat (first | refine blk_drewN ?_ _ | refine blk_drew ?_ | refine blk_alloc ?_ _)); exact BK106.out) hb); have n4_ := Aside0.mk (below_step (by repeat (first | (with_reducible first | exact HB.out | apply below_alloc | apply pw_below_drewN | apply below_drew1 | refine below_set ?_ GE106.out) | exact HB.out)) hb); clear HO_18; clear HO109; clear BK106; clear HB; have HO_18 := n0_; have HO109 := n1_; have HO112 := n2_; have BK106 := n3_; have HB := n4_; clear n0_ n1_ n2_ n3_ n4_; clear hb ho18; skip) | ((with_reducible refine gate_builtin (b := .append) (xs := #[.tmp 35, .tmp 36]) rfl ?_); at_builtin; refine Kd.R_append_rows (Kd.int .i64) (w0 := w) w.heap.size rfl (.tmp 35) (.tmp 36) 35 3 (.int .i64 0) 8 rfl Try.underlying35 info3 rfl (by decide) (by omega) v111 y110 t107 _ _ _ (fun k_ => some k_ ≠ (.slice Ao20 t107.length co20 : Value).ownBlock) (fun _ => False) rfl rfl ?aO ?aR (fun _ _ h => h) (fun _ h => h.elim) ?aF ?aB ?aS ?aL ?_; (case aR => repeat (first | exact (Kd.R_reads' HO109.out).2.2 | (with_reducible refine Kd.C_alloc ?_ _) | (with_reducible refine Kd.C_drewN ?_ _) | (with_reducible refine Kd.C_drew ?_))); (case aB => exact (by repeat (first | (with_reducible first | exact HB.out | apply below_alloc | apply pw_below_drewN | apply below_drew1 | refine below_set ?_ GE106.out) | exact HB.out))); (case aF => exact (fun k_ hk => Kd.fresh' (Kd.R_lt (by (with_reducible repeat (first | apply Kd.R_alloc | apply Kd.R_drewN | apply Kd.R_drew)); exact HO109.out)) k_ hk)); (case aO => exact (by (with_reducible repeat (first | apply Kd.R_alloc | apply Kd.R_drewN | apply Kd.R_drew)); exact Kd.R_mono HO112.out (fun _ hk => hk.2))); (case aS => exact (below_size (by repeat (first | (with_reducible first | exact HB.out | apply below_alloc | apply pw_below_drewN | apply below_drew1 | refine below_set ?_ GE106.out) | exact HB.out)))); (case aL => have := LMc12.out; omega); intro v114 w19 ho hb hg hat; rw [← Ny113.out] at ho; have n0_ := Aside0.mk (Kd.R_over' (by (with_reducible repeat (first | apply Kd.R_alloc | apply Kd.R_drewN | apply Kd.R_drew)); exact HO_18.out) (Kd.R_typed (by (with_reducible repeat (first | apply Kd.R_alloc | apply Kd.R_drewN | apply Kd.R_drew)); exact HO112.out)) (by decide) hg); have n1_ := Aside0.mk (blk_grown (g := gb106) (o := .cells #[.int .i64 ((rd_T27 t101 x20_1).fst), .int .i64 ((rd_T27 t101 x20_1).snd)] 27 (0, 0)) (by (with_reducible repeat (first | refine blk_drewN ?_ _ | refine blk_drew ?_ | refine blk_alloc ?_ _)); exact BK106.out) hg (Kd.R_ne HO112.out BK106.out (by decide))); have n2_ := Aside0.mk (Kd.R_after (ok := (fun _ => True)) (by (with_reducible repeat (first | apply Kd.R_alloc | apply Kd.R_drewN | apply Kd.R_drew)); exact HO109.out) hg hat); have n3_ := Aside0.mk (hb); have n4_ := Aside0.mk (ho); clear HO_18; clear BK106; clear HO109; clear HB; clear HO112; have HO_18 := n0_; have BK106 := n1_; have HO109 := n2_; have HB := n3_; have HO115 := n4_; clear n0_ n1_ n2_ n3_ n4_; clear ho hb hg hat))
        go_ret
        exact ⟨_, by first | rfl | (simp [errW_none, errW_some] <;> rfl) | (simp [*, errW_none, errW_some] <;> rfl), by (with_reducible repeat (first | apply Kd.R_alloc | apply Kd.R_drewN | apply Kd.R_drew)); exact Kd.R_mono HO115.out (fun _ hk => trivial), by repeat (first | (with_reducible first | exact HB.out | apply below_alloc | apply pw_below_drewN | apply below_drew1 | refine below_set ?_ GE106.out) | exact HB.out), fun e_ => by have h_ := Ny113.out; rw [e_] at h_; have h2_ := congrArg List.length h_; have h3_ := of_decide_eq_true c11b1; rw [List.length_append] at h2_; simp only [List.length_nil] at h2_; omega⟩
       ·rw [if_neg c12] at H
        exact absurd H (by simp)
      ·rw [if_neg c11] at H
       have c11b0 : decide (0 < (t107.length : Int)) = false := decide_eq_false c11
       have c11b1 : decide (0 < t107.length) = false := decide_eq_false (by omega)
       clear c11
       have H' := Aside0.mk H
       clear H
       have p105 : 0 ≤ (x20_1 : Int) := of_decide_eq_true (by first | (with_reducible assumption) | assumption)
       have q105 : x20_1 < (t101.length : Int) := of_decide_eq_true (by first | (with_reducible assumption) | assumption)
       obtain ⟨ad105, e105, hx105_0, hx105_1⟩ := at_T27 (Kd.R_reads' HO_18.out).2.2 x20_1 p105 q105
       cases e105
       replace p105 := eq_true p105
       replace q105 := eq_true q105
       go_wp2_with (first | ((with_reducible refine gate_dst (N := 10) rfl ?_); refine box_event ?hg (N := 10) ?hd (cs := #[.int .i64 0, .int .i64 0]) (t := 27) ?hr ?_; (case hd => rfl); (case hg => rfl); (case hr => first | (go_simp; done) | (go_simp; rfl)); intro gb106 hg w21 hbox hb; have n0_ := Aside0.mk (Kd.R_below (Kd.R_elderB (by (with_reducible repeat (first | apply Kd.R_alloc | apply Kd.R_drewN | apply Kd.R_drew)); exact HO_18.out) gb106 (Nat.le_of_eq hg.symm)) hb); have n1_ := Aside0.mk (below_step (by repeat (first | (with_reducible first | exact HB.out | apply below_alloc | apply pw_below_drewN | apply below_drew1) | exact HB.out)) hb); have n2_ := Aside0.mk (hbox); have n3_ := Aside0.mk ((by rw [hg]; exact (below_size (by repeat (first | (with_reducible first | exact HB.out | apply below_alloc | apply pw_below_drewN | apply below_drew1) | exact HB.out))) : w.heap.size ≤ gb106)); have n4_ := Aside0.mk ((by rw [hg]; exact (below_size (by repeat (first | (with_reducible first | exact HB.out | apply below_alloc | apply pw_below_drewN | apply below_drew1) | exact HB.out))) : w.heap.size ≤ gb106)); clear HO_18; clear HB; have HO_18 := n0_; have HB := n1_; have BK106 := n2_; have GW106 := n3_; have GE106 := n4_; clear n0_ n1_ n2_ n3_ n4_; clear hb hbox hg; have hcz22_0 : w21.cell? ⟨gb106, 0, none⟩ = some (.int .i64 0) := (blk_cell BK106.out 0).trans rfl; have hcz22_1 : w21.cell? ⟨gb106, 1, none⟩ = some (.int .i64 0) := (blk_cell BK106.out 1).trans rfl; have hfz22_0 := blk_frozen BK106.out 0; have hfz22_1 := blk_frozen BK106.out 1) | ((with_reducible refine gate_callee (f := 20) rfl ?_); refine goesL_ (some 30) rfl rfl Try.func20 (by kernel_rfl) rfl #[.int .i64 a0, .slice A1 l1.length c1, .int .i64 ((rd_T27 t101 x20_1).snd), .int .i64 ((rd_T27 t101 x20_1).fst)] rfl (by (try simp only [List.map_toArray, List.map_cons, List.map_nil]); first | done | rfl | (simp only [List.length_drop, List.length_take]; rfl)) ?_; (with_reducible refine (graph_Path.callsN k1 a0 _ _ l1 ((rd_T27 t101 x20_1).snd) ((rd_T27 t101 x20_1).fst) t107 _ ?side1 ?side2 A10.out).mono ?_); (case side1 => exact Kd.C_below HR1.out (by repeat (first | (with_reducible first | exact HB.out | apply below_alloc | apply pw_below_drewN | apply below_drew1 | refine below_set ?_ GE106.out) | exact HB.out))); (case side2 => exact HC1.out); rintro e w23 ⟨v108, rfl, ho0, hb, hnil_⟩; refine ⟨_, rfl, ?_⟩; have n0_ := Aside0.mk (Kd.R_below (by (with_reducible repeat (first | apply Kd.R_alloc | apply Kd.R_drewN | apply Kd.R_drew)); exact (Kd.R_mono (Kd.R_far (p := ⟨gb106, 1, none⟩) (Kd.R_far (p := ⟨gb106, 0, none⟩) (Kd.R_mono HO_18.out (fun k_ hk => (⟨hk, hk.2⟩ : _ ∧ k_ ≠ gb106))) (fun _ hk => hk.2) _) (fun _ hk => hk.2) _) (fun _ h_ => h_.1))) hb); have n1_ := Aside0.mk (Kd.R_lower ho0 (below_size (by repeat (first | (with_reducible first | exact HB.out | apply below_alloc | apply pw_below_drewN | apply below_drew1 | refine below_set ?_ GE106.out) | exact HB.out)))); have n2_ := Aside0.mk (blk_below (g := gb106) (o := .cells #[.int .i64 ((rd_T27 t101 x20_1).fst), .int .i64 ((rd_T27 t101 x20_1).snd)] 27 (0, 0)) (by (with_reducible repeat (first | refine blk_drewN ?_ _ | refine blk_drew ?_ | refine blk_alloc ?_ _)); refine blk_put (cs := #[.int .i64 ((rd_T27 t101 x20_1).fst), .int .i64 0]) ?_ 1 _ rfl; (with_reducible repeat (first | refine blk_drewN ?_ _ | refine blk_drew ?_ | refine blk_alloc ?_ _)); refine blk_put (cs := #[.int .i64 0, .int .i64 0]) ?_ 0 _ rfl; (with_reducible repeat (first | refine blk_drewN ?_ _ | refine blk_drew ?_ | refine blk_alloc ?_ _)); exact BK106.out) hb); have n3_ := Aside0.mk (below_step (by repeat (first | (with_reducible first | exact HB.out | apply below_alloc | apply pw_below_drewN | apply below_drew1 | refine below_set ?_ GE106.out) | exact HB.out)) hb); clear HO_18; clear BK106; clear HB; have HO_18 := n0_; have HO109 := n1_; have BK106 := n2_; have HB := n3_; clear n0_ n1_ n2_ n3_; (try clear hb); (try clear hb2); (try clear hk); (try clear hi); (try clear ho0); (have en_ := hnil_ (nil_of c11b0); subst en_); (try clear hnil_)))
       go_roundg k1
       case measure => have := HK1.out; omega
       case rel => exact ⟨(wrap64 (x20_1 + 1)), (by first | rfl | (simp; done) | (simp [*]; done)), H', ⟨by have := HK1.out; omega⟩, ⟨by (with_reducible repeat (first | apply Kd.R_alloc | apply Kd.R_drewN | apply Kd.R_drew)); exact Kd.R_mono HO_18.out (fun _ hk => trivial)⟩, ⟨by repeat (first | (with_reducible first | exact HB.out | apply below_alloc | apply pw_below_drewN | apply below_drew1 | refine below_set ?_ GE106.out) | exact HB.out)⟩⟩
     ·rw [if_neg c9] at H
      exact absurd H (by simp)
    ·rw [if_neg c8] at H
     exact absurd H (by simp)
   ·rw [if_neg c7] at H
    have c7b0 : decide (x20_1 < (t101.length : Int)) = false := decide_eq_false c7
    clear c7
    obtain rfl := Option.some.inj H
    go_wp2
    go_ret
    exact ⟨_, by first | rfl | (simp [errW_none, errW_some] <;> rfl) | (simp [*, errW_none, errW_some] <;> rfl), by first | exact Kd.R_nil _ _ _ _ _ | exact Kd.N_nil _ _ _ _ _ | exact Kd.V_nil _ _ _ _ _ | exact Kd.Q_nil _ _ _ _ _ | exact Kd.S_nil _ _ _ _ _, by repeat (first | (with_reducible first | exact HB.out | apply below_alloc | apply pw_below_drewN | apply below_drew1) | exact HB.out), by intros; first | rfl | (go_simp; done)⟩
def strata_Of.l0 : Nat → List ByteArray → List ByteArray → List Int → Int → Int → Option (List Int × List ByteArray × Int)
 | 0, _, _, _, _, _ => none
 | k + 1, x5, x9, x30, x31, x32 => if x32 < x31 then (if 0 ≤ x32 then (if x32 < (x30.length : Int) then (if 0 ≤ (rd x30 x32) then (if (rd x30 x32) < (x5.length : Int) then (if x9.length < 8796093022208 then (strata_Of.l0 k x5 (x9 ++ [rdOf ByteArray.empty x5 (rd x30 x32)]) x30 x31 (wrap64 (x32 + 1))) else (none)) else (none)) else (none)) else (none)) else (none)) else (some (([] : List Int), x9, 7))
def strata_Of.f (k : Nat) (l0_0 : List (Decl)) (l0_1 : List (Rule)) : Option (List Int × List ByteArray × Int) := (strata_Preds.f k l0_0 l0_1).bind fun t102 => (if (t102.length : Int) > 1000 then (some (([] : List Int), ([] : List ByteArray), 4)) else ((strata_edges.f k l0_0 l0_1 t102).bind fun bt105 => ((strata_ring.f k (t102.length : Int) bt105.1 bt105.2).bind fun t111 => (if 0 < (t111.length : Int) then (strata_Of.l0 k t102 ([] : List ByteArray) t111 (t111.length : Int) 0) else ((strata_levels.f k (t102.length : Int) bt105.1 bt105.2).bind fun t119 => (some (t119, ([] : List ByteArray), 0)))))))
theorem strata_Of.mono_l : ∀ k, (∀ y0 y1 y2 y3 y4, LeO (strata_Of.l0 k y0 y1 y2 y3 y4) (strata_Of.l0 (k + 1) y0 y1 y2 y3 y4))
 | 0 => fun _ _ _ _ _ r h => by simp [strata_Of.l0] at h
 | k + 1 => by
  have ih0 := strata_Of.mono_l k
  ·intro y0 y1 y2 y3 y4
   unfold strata_Of.l0
   repeat' first
   | (with_reducible exact ih0 _ _ _ _ _)
   | (with_reducible exact strata_Preds.mono _ _ _)
   | (with_reducible exact strata_edges.mono _ _ _ _)
   | (with_reducible exact strata_levels.mono _ _ _ _)
   | (with_reducible exact strata_ring.mono _ _ _ _)
   | (with_reducible exact LeO.refl _)
   | (with_reducible exact LeO.none _)
   | (with_reducible refine LeO.ite ?_ ?_)
   | (with_reducible refine LeO.bind ?_ (fun _ => ?_))
   | exact ih0 _ _ _ _ _
   | exact strata_Preds.mono _ _ _
   | exact strata_edges.mono _ _ _ _
   | exact strata_levels.mono _ _ _ _
   | exact strata_ring.mono _ _ _ _
   | exact LeO.none _
   | refine LeO.ite ?_ ?_
   | refine LeO.bind ?_ (fun _ => ?_)
theorem strata_Of.mono : ∀ a0 a1 k, LeO (strata_Of.f k a0 a1) (strata_Of.f (k + 1) a0 a1) := by
 intro a0 a1 k
 have ih0 := strata_Of.mono_l k
 unfold strata_Of.f
 repeat' first
   | (with_reducible exact ih0 _ _ _ _ _)
   | (with_reducible exact strata_Preds.mono _ _ _)
   | (with_reducible exact strata_edges.mono _ _ _ _)
   | (with_reducible exact strata_levels.mono _ _ _ _)
   | (with_reducible exact strata_ring.mono _ _ _ _)
   | (with_reducible exact LeO.refl _)
   | (with_reducible exact LeO.none _)
   | (with_reducible refine LeO.ite ?_ ?_)
   | (with_reducible refine LeO.bind ?_ (fun _ => ?_))
   | exact ih0 _ _ _ _ _
   | exact strata_Preds.mono _ _ _
   | exact strata_edges.mono _ _ _ _
   | exact strata_levels.mono _ _ _ _
   | exact strata_ring.mono _ _ _ _
   | exact LeO.none _
   | refine LeO.ite ?_ ?_
   | refine LeO.bind ?_ (fun _ => ?_)
set_option maxHeartbeats 8000000 in
set_option maxRecDepth 100000 in
theorem strata_Of.calls (k : Nat) (A0_0 : Option Addr) (c0_0 : Nat) (l0_0 : List (Decl)) (A0_1 : Option Addr) (c0_1 : Nat) (l0_1 : List (Rule)) (r1 : List Int) (r2 : List ByteArray) (r3 : Int) (w : World) (hr0_0 : Kd.C k96 w A0_0 l0_0.length l0_0) (hc0_0 : l0_0.length ≤ c0_0) (hr0_1 : Kd.C k64 w A0_1 l0_1.length l0_1) (hc0_1 : l0_1.length ≤ c0_1) (h : strata_Of.f k l0_0 l0_1 = some (r1, r2, r3)) :
  Calls Try.prog 29 #[.agg #[.slice A0_0 l0_0.length c0_0, .slice A0_1 l0_1.length c0_1]] w fun e w' => ∃ v0_ v1_ : Value, e = .returned (.tuple #[v0_, v1_, .int .i64 r3]) ∧ Kd.R (Kd.int .i64) 3 w' w.heap.size (fun _ => True) v0_ r1 ∧ Kd.R Kd.string 9 w' w.heap.size (fun _ => True) v1_ r2 ∧ Below w.heap.size w w' := by
 have hu50 := Try.underlying50
 have nq_ : ∀ (W : World) (a : Option Addr) (l c : Nat), (binOp .neq 35 (.slice a l c) (.slice none 0 0)).run Try.prog W = .ok (.bool (!a.isNone)) W := fun W a l c => run_neq_slice_nil W 35 _ a l c Try.underlying35
 have HR0_0 := am hr0_0
 have HC0_0 := am hc0_0
 clear hr0_0 hc0_0
 have HR0_1 := am hr0_1
 have HC0_1 := am hc0_1
 clear hr0_1 hc0_1
 have HB := am (Below.refl w.heap.size w)
 have H : ((strata_Preds.f k l0_0 l0_1).bind fun t102 => (if (t102.length : Int) > 1000 then (some (([] : List Int), ([] : List ByteArray), 4)) else ((strata_edges.f k l0_0 l0_1 t102).bind fun bt105 => ((strata_ring.f k (t102.length : Int) bt105.1 bt105.2).bind fun t111 => (if 0 < (t111.length : Int) then (strata_Of.l0 k t102 ([] : List ByteArray) t111 (t111.length : Int) 0) else ((strata_levels.f k (t102.length : Int) bt105.1 bt105.2).bind fun t119 => (some (t119, ([] : List ByteArray), 0)))))))) = some (r1, r2, r3) := h
 clear h
 replace H := Option.bind_eq_some_iff.mp H
 obtain ⟨t102, A20, H⟩ := H
 replace H : (if (t102.length : Int) > 1000 then (some (([] : List Int), ([] : List ByteArray), 4)) else ((strata_edges.f k l0_0 l0_1 t102).bind fun bt105 => ((strata_ring.f k (t102.length : Int) bt105.1 bt105.2).bind fun t111 => (if 0 < (t111.length : Int) then (strata_Of.l0 k t102 ([] : List ByteArray) t111 (t111.length : Int) 0) else ((strata_levels.f k (t102.length : Int) bt105.1 bt105.2).bind fun t119 => (some (t119, ([] : List ByteArray), 0))))))) = some (r1, r2, r3) := H
 have A2 := am A20
 clear A20
 by_cases c3 : (t102.length : Int) > 1000
 ·rw [if_pos c3] at H
  have c3b0 : decide (1000 < (t102.length : Int)) = true := decide_eq_true c3
  have c3b1 : decide (1000 < t102.length) = true := decide_eq_true (by omega)
  clear c3
  simp only [Option.some.injEq, Prod.mk.injEq] at H
  obtain ⟨rfl, rfl, rfl⟩ := H
  go_enter Try.func29, Try.ntmps29
  go_wp2_with (first | ((with_reducible refine gate_dst (N := 1) rfl ?_); refine box_event ?hg (N := 1) ?hd (cs := #[.slice A0_0 l0_0.length c0_0, .slice A0_1 l0_1.length c0_1]) (t := 50) ?hr ?_; (case hd => rfl); (case hg => rfl); (case hr => first | (go_simp; done) | (go_simp; rfl)); intro gb101 hg w4 hbox hb; have BK101 := am (hbox); have GW101 := am (gw_ hg HB.out); have GE101 := GW101; replace HB := am (bs_ HB.out hb); clear hb hbox hg; obtain ⟨hcz5_0, hcz5_1, hfz5_0, hfz5_1⟩ := bc2 BK101.out) | ((with_reducible refine gate_callee (f := 32) rfl ?_); refine goesL_ (some 13) rfl rfl Try.func32 (by kernel_rfl) rfl #[.agg #[.slice A0_0 l0_0.length c0_0, .slice A0_1 l0_1.length c0_1]] rfl (by (try simp only [List.map_toArray, List.map_cons, List.map_nil]); first | done | rfl | (simp only [List.length_drop, List.length_take]; rfl)) ?_; (with_reducible refine (strata_Preds.calls k _ _ l0_0 _ _ l0_1 t102 _ ?side1 ?side2 ?side3 ?side4 A2.out).mono ?_); (case side1 => repeat (first | exact (Kd.C_below HR0_0.out HB.out) | (with_reducible refine Kd.C_alloc ?_ _) | (with_reducible refine Kd.C_drewN ?_ _) | (with_reducible refine Kd.C_drew ?_))); (case side2 => exact HC0_0.out); (case side3 => repeat (first | exact (Kd.C_below HR0_1.out HB.out) | (with_reducible refine Kd.C_alloc ?_ _) | (with_reducible refine Kd.C_drewN ?_ _) | (with_reducible refine Kd.C_drew ?_))); (case side4 => exact HC0_1.out); rintro e w6 ⟨v103, rfl, ho0, hb⟩; refine ⟨_, rfl, ?_⟩; have HO104 := am (Kd.R_lower ho0 (below_size (pL HB.out))); replace BK101 := am (bb_ BK101.out hb); replace HB := am (bs_ HB.out hb); (try clear hb); (try clear hb2); (try clear hk); (try clear hi); (try clear ho0); obtain ⟨Ao7, co7, eo7⟩ := Kd.R_slice HO104.out; subst eo7))
  go_ret3
  exact ⟨_, _, by first | rfl | (simp [errW_none, errW_some] <;> rfl) | (simp [*, errW_none, errW_some] <;> rfl), by first | exact Kd.R_nil _ _ _ _ _ | exact Kd.N_nil _ _ _ _ _ | exact Kd.V_nil _ _ _ _ _ | exact Kd.Q_nil _ _ _ _ _ | exact Kd.S_nil _ _ _ _ _, by first | exact Kd.R_nil _ _ _ _ _ | exact Kd.N_nil _ _ _ _ _ | exact Kd.V_nil _ _ _ _ _ | exact Kd.Q_nil _ _ _ _ _ | exact Kd.S_nil _ _ _ _ _, pL HB.out⟩
 ·rw [if_neg c3] at H
  have c3b0 : decide (1000 < (t102.length : Int)) = false := decide_eq_false c3
  have c3b1 : decide (1000 < t102.length) = false := decide_eq_false (by omega)
  clear c3
  replace H := Option.bind_eq_some_iff.mp H
  obtain ⟨⟨t105, t108⟩, A80, H⟩ := H
  replace H : ((strata_ring.f k (t102.length : Int) t105 t108).bind fun t111 => (if 0 < (t111.length : Int) then (strata_Of.l0 k t102 ([] : List ByteArray) t111 (t111.length : Int) 0) else ((strata_levels.f k (t102.length : Int) t105 t108).bind fun t119 => (some (t119, ([] : List ByteArray), 0))))) = some (r1, r2, r3) := H
  have A8 := am A80
  clear A80
  replace H := Option.bind_eq_some_iff.mp H
  obtain ⟨t111, A90, H⟩ := H
  replace H : (if 0 < (t111.length : Int) then (strata_Of.l0 k t102 ([] : List ByteArray) t111 (t111.length : Int) 0) else ((strata_levels.f k (t102.length : Int) t105 t108).bind fun t119 => (some (t119, ([] : List ByteArray), 0)))) = some (r1, r2, r3) := H
  have A9 := am A90
  clear A90
  by_cases c10 : 0 < (t111.length : Int)
  ·rw [if_pos c10] at H
   have c10b0 : decide (0 < (t111.length : Int)) = true := decide_eq_true c10
   have c10b1 : decide (0 < t111.length) = true := decide_eq_true (by omega)
   clear c10
   have H' := am H
   clear H
   go_enter Try.func29, Try.ntmps29
   go_wp2_with (first | ((with_reducible refine gate_dst (N := 1) rfl ?_); refine box_event ?hg (N := 1) ?hd (cs := #[.slice A0_0 l0_0.length c0_0, .slice A0_1 l0_1.length c0_1]) (t := 50) ?hr ?_; (case hd => rfl); (case hg => rfl); (case hr => first | (go_simp; done) | (go_simp; rfl)); intro gb101 hg w11 hbox hb; have BK101 := am (hbox); have GW101 := am (gw_ hg HB.out); have GE101 := GW101; replace HB := am (bs_ HB.out hb); clear hb hbox hg; obtain ⟨hcz12_0, hcz12_1, hfz12_0, hfz12_1⟩ := bc2 BK101.out) | ((with_reducible refine gate_callee (f := 32) rfl ?_); refine goesL_ (some 13) rfl rfl Try.func32 (by kernel_rfl) rfl #[.agg #[.slice A0_0 l0_0.length c0_0, .slice A0_1 l0_1.length c0_1]] rfl (by (try simp only [List.map_toArray, List.map_cons, List.map_nil]); first | done | rfl | (simp only [List.length_drop, List.length_take]; rfl)) ?_; (with_reducible refine (strata_Preds.calls k _ _ l0_0 _ _ l0_1 t102 _ ?side1 ?side2 ?side3 ?side4 A2.out).mono ?_); (case side1 => repeat (first | exact (Kd.C_below HR0_0.out HB.out) | (with_reducible refine Kd.C_alloc ?_ _) | (with_reducible refine Kd.C_drewN ?_ _) | (with_reducible refine Kd.C_drew ?_))); (case side2 => exact HC0_0.out); (case side3 => repeat (first | exact (Kd.C_below HR0_1.out HB.out) | (with_reducible refine Kd.C_alloc ?_ _) | (with_reducible refine Kd.C_drewN ?_ _) | (with_reducible refine Kd.C_drew ?_))); (case side4 => exact HC0_1.out); rintro e w13 ⟨v103, rfl, ho0, hb⟩; refine ⟨_, rfl, ?_⟩; have HO104 := am (Kd.R_lower ho0 (below_size (pL HB.out))); replace BK101 := am (bb_ BK101.out hb); replace HB := am (bs_ HB.out hb); (try clear hb); (try clear hb2); (try clear hk); (try clear hi); (try clear ho0); obtain ⟨Ao14, co14, eo14⟩ := Kd.R_slice HO104.out; subst eo14; obtain ⟨hcz15_0, hcz15_1, hfz15_0, hfz15_1⟩ := bc2 BK101.out) | ((with_reducible refine gate_callee (f := 52) rfl ?_); refine goesL_ (some 20) rfl rfl Try.func52 (by kernel_rfl) rfl #[.agg #[.slice A0_0 l0_0.length c0_0, .slice A0_1 l0_1.length c0_1], .slice Ao14 t102.length co14] rfl (by (try simp only [List.map_toArray, List.map_cons, List.map_nil]); first | done | rfl | (simp only [List.length_drop, List.length_take]; rfl)) ?_; (with_reducible refine (strata_edges.calls k _ _ l0_0 _ _ l0_1 _ _ t102 t105 t108 _ ?side1 ?side2 ?side3 ?side4 ?side5 ?side6 A8.out).mono ?_); (case side1 => repeat (first | exact (Kd.C_below HR0_0.out HB.out) | (with_reducible refine Kd.C_alloc ?_ _) | (with_reducible refine Kd.C_drewN ?_ _) | (with_reducible refine Kd.C_drew ?_))); (case side2 => exact HC0_0.out); (case side3 => repeat (first | exact (Kd.C_below HR0_1.out HB.out) | (with_reducible refine Kd.C_alloc ?_ _) | (with_reducible refine Kd.C_drewN ?_ _) | (with_reducible refine Kd.C_drew ?_))); (case side4 => exact HC0_1.out); (case side5 => repeat (first | exact (Kd.R_reads' HO104.out).2.2 | (with_reducible refine Kd.C_alloc ?_ _) | (with_reducible refine Kd.C_drewN ?_ _) | (with_reducible refine Kd.C_drew ?_))); (case side6 => exact (Kd.R_reads' HO104.out).2.1); rintro e w16 ⟨v106, v109, rfl, ho0, ho1, hb⟩; refine ⟨_, rfl, ?_⟩; replace HO104 := am (Rb_ HO104.out hb); have HO107 := am (Kd.R_lower ho0 (below_size (pL HB.out))); have HO110 := am (Kd.R_lower ho1 (below_size (pL HB.out))); replace BK101 := am (bb_ BK101.out hb); replace HB := am (bs_ HB.out hb); (try clear hb); (try clear hb2); (try clear hk); (try clear hi); (try clear ho0); (try clear ho1); obtain ⟨Ao17, co17, eo17⟩ := Kd.R_slice HO107.out; subst eo17; obtain ⟨Ao18, co18, eo18⟩ := Kd.R_slice HO110.out; subst eo18) | ((with_reducible refine gate_callee (f := 53) rfl ?_); refine goesL_ (some 27) rfl rfl Try.func53 (by kernel_rfl) rfl #[.int .i64 (t102.length : Int), .slice Ao17 t105.length co17, .slice Ao18 t108.length co18] rfl (by (try simp only [List.map_toArray, List.map_cons, List.map_nil]); first | done | rfl | (simp only [List.length_drop, List.length_take]; rfl)) ?_; (with_reducible refine (strata_ring.calls k (t102.length : Int) _ _ t105 _ _ t108 t111 _ ?side1 ?side2 ?side3 ?side4 A9.out).mono ?_); (case side1 => repeat (first | exact (Kd.R_reads' HO107.out).2.2 | (with_reducible refine Kd.C_alloc ?_ _) | (with_reducible refine Kd.C_drewN ?_ _) | (with_reducible refine Kd.C_drew ?_))); (case side2 => exact (Kd.R_reads' HO107.out).2.1); (case side3 => repeat (first | exact (Kd.R_reads' HO110.out).2.2 | (with_reducible refine Kd.C_alloc ?_ _) | (with_reducible refine Kd.C_drewN ?_ _) | (with_reducible refine Kd.C_drew ?_))); (case side4 => exact (Kd.R_reads' HO110.out).2.1); rintro e w19 ⟨v112, rfl, ho0, hb, hnil_⟩; refine ⟨_, rfl, ?_⟩; replace HO104 := am (Rb_ HO104.out hb); replace HO107 := am (Rb_ HO107.out hb); replace HO110 := am (Rb_ HO110.out hb); have HO113 := am (Kd.R_lower ho0 (below_size (pL HB.out))); replace BK101 := am (bb_ BK101.out hb); replace HB := am (bs_ HB.out hb); (try clear hb); (try clear hb2); (try clear hk); (try clear hi); (try clear ho0); obtain ⟨Ao20, co20, eo20⟩ := Kd.R_slice HO113.out; subst eo20; have hs_ := isSome_of HO113.out c10b0; (try clear hnil_); skip))
   go_loopg [9, 32] k (fun kq v9 v32 w' => ∃ (x9_1 : List ByteArray) (x32_1 : Int), v32 = .int .i64 x32_1 ∧ Aside0 (strata_Of.l0 kq t102 x9_1 t111 (t111.length : Int) x32_1 = some (r1, r2, r3)) ∧ Aside0 (kq ≤ k) ∧ Aside0 (Kd.R Kd.string 9 w' w.heap.size (fun k_ => some k_ ≠ (v9 : Value).ownBlock) (.slice Ao14 t102.length co14) t102) ∧ Aside0 (Kd.R Kd.string 9 w' w.heap.size (fun k_ => some k_ ≠ ((.slice Ao14 t102.length co14) : Value).ownBlock) v9 x9_1) ∧ Aside0 (Kd.R (Kd.int .i64) 3 w' w.heap.size (fun _ => True) (.slice Ao20 t111.length co20) t111) ∧ Aside0 (w'.heap[gb101]? = some (.cells #[(.slice A0_0 l0_0.length c0_0), (.slice A0_1 l0_1.length c0_1)] 50 (0, 0))) ∧ Aside0 (Below w.heap.size w w'))
   case atStart => exact ⟨(([] : List ByteArray)), (0), rs_, H', ⟨Nat.le_refl _⟩, ⟨by (with_reducible repeat (first | apply Ra | apply Rn | apply Rd)); exact Kd.R_mono HO104.out (fun _ hk => (by simp [Value.ownBlock]))⟩, ⟨by first | exact Kd.R_nil _ _ _ _ _ | exact Kd.N_nil _ _ _ _ _ | exact Kd.V_nil _ _ _ _ _ | exact Kd.Q_nil _ _ _ _ _ | exact Kd.S_nil _ _ _ _ _⟩, ⟨pR HO113.out⟩, ⟨pB BK101.out⟩, ⟨pL HB.out⟩⟩
   case round =>
    clear H'
    try clear c1
    try clear c2
    try clear p2
    try clear c3
    try clear c3b0
    try clear c3b1
    try clear c5
    try clear c10
    try clear c10b0
    try clear c10b1
    try clear hcz12_0
    try clear hcz12_1
    try clear hcz15_0
    try clear hcz15_1
    try clear hcz5_0
    try clear hcz5_1
    try clear hfz12_0
    try clear hfz12_1
    try clear hfz15_0
    try clear hfz15_1
    try clear hfz5_0
    try clear hfz5_1
    obtain ⟨x9_1, x32_1, rfl, HA, HK1, HO_5, HO_9, HO_30, BK101, HB⟩ := hrel
    cases gk with
    | zero => exact absurd HA.out (by simp [strata_Of.l0])
    | succ k1 =>
     have H := HA.out
     clear HA
     simp only [strata_Of.l0] at H
     by_cases c21 : x32_1 < (t111.length : Int)
     ·rw [if_pos c21] at H
      have c21b0 : decide (x32_1 < (t111.length : Int)) = true := decide_eq_true c21
      clear c21
      by_cases c22 : 0 ≤ x32_1
      ·rw [if_pos c22] at H
       have c22b0 : decide (0 ≤ x32_1) = true := decide_eq_true c22
       clear c22
       by_cases c23 : x32_1 < (t111.length : Int)
       ·rw [if_pos c23] at H
        have c23b0 : decide (x32_1 < (t111.length : Int)) = true := decide_eq_true c23
        clear c23
        by_cases c24 : 0 ≤ (rd t111 x32_1)
        ·rw [if_pos c24] at H
         have c24b0 : decide (0 ≤ (rd t111 x32_1)) = true := decide_eq_true c24
         clear c24
         by_cases c25 : (rd t111 x32_1) < (t102.length : Int)
         ·rw [if_pos c25] at H
          have c25b0 : decide ((rd t111 x32_1) < (t102.length : Int)) = true := decide_eq_true c25
          clear c25
          by_cases c26 : x9_1.length < 8796093022208
          ·rw [if_pos c26] at H
           have LMc26 := am c26
           clear c26
           obtain ⟨y116, hy116⟩ : ∃ y_ : List ByteArray, y_ = (x9_1 ++ [rdOf ByteArray.empty t102 (rd t111 x32_1)]) := ⟨_, rfl⟩
           replace H : (strata_Of.l0 k1 t102 y116 t111 (t111.length : Int) (wrap64 (x32_1 + 1))) = some (r1, r2, r3) := by first | (rw [hy116]; with_reducible exact H) | (have H2_ := (Option.bind_some _ _).symm.trans H; rw [hy116]; with_reducible exact H2_) | (have H2_ := (Option.bind_some _ _).symm.trans H; with_reducible exact H2_) | with_reducible exact H | (rw [hy116]; exact H) | exact H
           have Ny116 := am hy116
           clear hy116
           have H' := am H
           clear H
           have p114 : 0 ≤ (x32_1 : Int) := dt_
           have q114 : x32_1 < (t111.length : Int) := dt_
           obtain ⟨ad114, e114, hx114_0⟩ := Kd.at_int (Kd.R_reads' HO_30.out).2.2 x32_1 p114 q114
           cases e114
           replace p114 := eq_true p114
           replace q114 := eq_true q114
           have p115 : 0 ≤ ((rd t111 x32_1) : Int) := dt_
           have q115 : (rd t111 x32_1) < (t102.length : Int) := dt_
           obtain ⟨ad115, e115, hx115_0⟩ := Kd.at_string (Kd.R_reads' HO_5.out).2.2 (rd t111 x32_1) p115 q115
           cases e115
           replace p115 := eq_true p115
           replace q115 := eq_true q115
           go_wp2_with (first | ((with_reducible refine gate_builtin (b := .append) (xs := #[.tmp 36, .tmp 41]) rfl ?_); at_builtin; refine Kd.R_append Kd.string (w0 := w) w.heap.size rfl (.tmp 36) (.tmp 41) 52 9 (.string ⟨#[]⟩) 16 rfl Try.underlying52 info9 rfl (by decide) (by omega) u9 x9_1 (rdOf ByteArray.empty t102 (rd t111 x32_1)) [.string (rdOf ByteArray.empty t102 (rd t111 x32_1))] (fun k_ => some k_ ≠ (.slice (some ad115) t102.length co14 : Value).ownBlock) (fun _ => False) rfl rfl ?aP (fun _ hk => hk.elim) ?aF ?aO ?aB ?aS ?aL ?_; (case aP => exact rfl); (case aB => exact (pL HB.out)); (case aF => exact (fun k_ hk => Kd.fresh' (Kd.R_lt (pR HO_5.out)) k_ hk)); (case aO => exact (pR HO_9.out)); (case aS => exact (below_size (pL HB.out))); (case aL => have := LMc26.out; omega); intro v117 w27 ho hb hg hat; rw [← Ny116.out] at ho; replace HO_5 := am (Kd.R_after (ok := (fun _ => True)) (by (with_reducible repeat (first | apply Ra | apply Rn | apply Rd)); exact Kd.R_mono HO_5.out (fun _ hk => ⟨trivial, hk⟩)) hg hat); replace HO_30 := am (Kd.R_over' (pR HO_30.out) (Kd.R_typed (pR HO_9.out)) (by decide) hg); replace BK101 := am (blk_grown (pB BK101.out) hg (Kd.R_ne HO_9.out BK101.out (by decide))); replace HB := am (hb); have HO118 := am (ho); clear HO_9; clear ho hb hg hat))
           go_roundg k1
           case measure => have := HK1.out; omega
           case rel => exact ⟨(y116), (wrap64 (x32_1 + 1)), rs_, H', ⟨by have := HK1.out; omega⟩, ⟨by (with_reducible repeat (first | apply Ra | apply Rn | apply Rd)); exact Kd.R_mono HO_5.out (fun _ hk => hk.2)⟩, ⟨pR HO118.out⟩, ⟨pR HO_30.out⟩, ⟨pB BK101.out⟩, ⟨pL HB.out⟩⟩
          ·rw [if_neg c26] at H
           exact absurd H (by simp)
         ·rw [if_neg c25] at H
          exact absurd H (by simp)
        ·rw [if_neg c24] at H
         exact absurd H (by simp)
       ·rw [if_neg c23] at H
        exact absurd H (by simp)
      ·rw [if_neg c22] at H
       exact absurd H (by simp)
     ·rw [if_neg c21] at H
      have c21b0 : decide (x32_1 < (t111.length : Int)) = false := decide_eq_false c21
      clear c21
      simp only [Option.some.injEq, Prod.mk.injEq] at H
      obtain ⟨rfl, rfl, rfl⟩ := H
      go_wp2
      go_ret3
      exact ⟨_, _, by first | rfl | (simp [errW_none, errW_some] <;> rfl) | (simp [*, errW_none, errW_some] <;> rfl), by first | exact Kd.R_nil _ _ _ _ _ | exact Kd.N_nil _ _ _ _ _ | exact Kd.V_nil _ _ _ _ _ | exact Kd.Q_nil _ _ _ _ _ | exact Kd.S_nil _ _ _ _ _, by (with_reducible repeat (first | apply Ra | apply Rn | apply Rd)); exact Kd.R_mono HO_9.out (fun _ hk => trivial), pL HB.out⟩
  ·rw [if_neg c10] at H
   have c10b0 : decide (0 < (t111.length : Int)) = false := decide_eq_false c10
   have c10b1 : decide (0 < t111.length) = false := decide_eq_false (by omega)
   clear c10
   replace H := Option.bind_eq_some_iff.mp H
   obtain ⟨t119, A280, H⟩ := H
   replace H : (some (t119, ([] : List ByteArray), 0)) = some (r1, r2, r3) := H
   have A28 := am A280
   clear A280
   simp only [Option.some.injEq, Prod.mk.injEq] at H
   obtain ⟨rfl, rfl, rfl⟩ := H
   go_enter Try.func29, Try.ntmps29
   go_wp2_with (first | ((with_reducible refine gate_dst (N := 1) rfl ?_); refine box_event ?hg (N := 1) ?hd (cs := #[.slice A0_0 l0_0.length c0_0, .slice A0_1 l0_1.length c0_1]) (t := 50) ?hr ?_; (case hd => rfl); (case hg => rfl); (case hr => first | (go_simp; done) | (go_simp; rfl)); intro gb101 hg w29 hbox hb; have BK101 := am (hbox); have GW101 := am (gw_ hg HB.out); have GE101 := GW101; replace HB := am (bs_ HB.out hb); clear hb hbox hg; obtain ⟨hcz30_0, hcz30_1, hfz30_0, hfz30_1⟩ := bc2 BK101.out) | ((with_reducible refine gate_callee (f := 32) rfl ?_); refine goesL_ (some 13) rfl rfl Try.func32 (by kernel_rfl) rfl #[.agg #[.slice A0_0 l0_0.length c0_0, .slice A0_1 l0_1.length c0_1]] rfl (by (try simp only [List.map_toArray, List.map_cons, List.map_nil]); first | done | rfl | (simp only [List.length_drop, List.length_take]; rfl)) ?_; (with_reducible refine (strata_Preds.calls k _ _ l0_0 _ _ l0_1 t102 _ ?side1 ?side2 ?side3 ?side4 A2.out).mono ?_); (case side1 => repeat (first | exact (Kd.C_below HR0_0.out HB.out) | (with_reducible refine Kd.C_alloc ?_ _) | (with_reducible refine Kd.C_drewN ?_ _) | (with_reducible refine Kd.C_drew ?_))); (case side2 => exact HC0_0.out); (case side3 => repeat (first | exact (Kd.C_below HR0_1.out HB.out) | (with_reducible refine Kd.C_alloc ?_ _) | (with_reducible refine Kd.C_drewN ?_ _) | (with_reducible refine Kd.C_drew ?_))); (case side4 => exact HC0_1.out); rintro e w31 ⟨v103, rfl, ho0, hb⟩; refine ⟨_, rfl, ?_⟩; have HO104 := am (Kd.R_lower ho0 (below_size (pL HB.out))); replace BK101 := am (bb_ BK101.out hb); replace HB := am (bs_ HB.out hb); (try clear hb); (try clear hb2); (try clear hk); (try clear hi); (try clear ho0); obtain ⟨Ao32, co32, eo32⟩ := Kd.R_slice HO104.out; subst eo32; obtain ⟨hcz33_0, hcz33_1, hfz33_0, hfz33_1⟩ := bc2 BK101.out) | ((with_reducible refine gate_callee (f := 52) rfl ?_); refine goesL_ (some 20) rfl rfl Try.func52 (by kernel_rfl) rfl #[.agg #[.slice A0_0 l0_0.length c0_0, .slice A0_1 l0_1.length c0_1], .slice Ao32 t102.length co32] rfl (by (try simp only [List.map_toArray, List.map_cons, List.map_nil]); first | done | rfl | (simp only [List.length_drop, List.length_take]; rfl)) ?_; (with_reducible refine (strata_edges.calls k _ _ l0_0 _ _ l0_1 _ _ t102 t105 t108 _ ?side1 ?side2 ?side3 ?side4 ?side5 ?side6 A8.out).mono ?_); (case side1 => repeat (first | exact (Kd.C_below HR0_0.out HB.out) | (with_reducible refine Kd.C_alloc ?_ _) | (with_reducible refine Kd.C_drewN ?_ _) | (with_reducible refine Kd.C_drew ?_))); (case side2 => exact HC0_0.out); (case side3 => repeat (first | exact (Kd.C_below HR0_1.out HB.out) | (with_reducible refine Kd.C_alloc ?_ _) | (with_reducible refine Kd.C_drewN ?_ _) | (with_reducible refine Kd.C_drew ?_))); (case side4 => exact HC0_1.out); (case side5 => repeat (first | exact (Kd.R_reads' HO104.out).2.2 | (with_reducible refine Kd.C_alloc ?_ _) | (with_reducible refine Kd.C_drewN ?_ _) | (with_reducible refine Kd.C_drew ?_))); (case side6 => exact (Kd.R_reads' HO104.out).2.1); rintro e w34 ⟨v106, v109, rfl, ho0, ho1, hb⟩; refine ⟨_, rfl, ?_⟩; replace HO104 := am (Rb_ HO104.out hb); have HO107 := am (Kd.R_lower ho0 (below_size (pL HB.out))); have HO110 := am (Kd.R_lower ho1 (below_size (pL HB.out))); replace BK101 := am (bb_ BK101.out hb); replace HB := am (bs_ HB.out hb); (try clear hb); (try clear hb2); (try clear hk); (try clear hi); (try clear ho0); (try clear ho1); obtain ⟨Ao35, co35, eo35⟩ := Kd.R_slice HO107.out; subst eo35; obtain ⟨Ao36, co36, eo36⟩ := Kd.R_slice HO110.out; subst eo36) | ((with_reducible refine gate_callee (f := 53) rfl ?_); refine goesL_ (some 27) rfl rfl Try.func53 (by kernel_rfl) rfl #[.int .i64 (t102.length : Int), .slice Ao35 t105.length co35, .slice Ao36 t108.length co36] rfl (by (try simp only [List.map_toArray, List.map_cons, List.map_nil]); first | done | rfl | (simp only [List.length_drop, List.length_take]; rfl)) ?_; (with_reducible refine (strata_ring.calls k (t102.length : Int) _ _ t105 _ _ t108 t111 _ ?side1 ?side2 ?side3 ?side4 A9.out).mono ?_); (case side1 => repeat (first | exact (Kd.R_reads' HO107.out).2.2 | (with_reducible refine Kd.C_alloc ?_ _) | (with_reducible refine Kd.C_drewN ?_ _) | (with_reducible refine Kd.C_drew ?_))); (case side2 => exact (Kd.R_reads' HO107.out).2.1); (case side3 => repeat (first | exact (Kd.R_reads' HO110.out).2.2 | (with_reducible refine Kd.C_alloc ?_ _) | (with_reducible refine Kd.C_drewN ?_ _) | (with_reducible refine Kd.C_drew ?_))); (case side4 => exact (Kd.R_reads' HO110.out).2.1); rintro e w37 ⟨v112, rfl, ho0, hb, hnil_⟩; refine ⟨_, rfl, ?_⟩; replace HO104 := am (Rb_ HO104.out hb); replace HO107 := am (Rb_ HO107.out hb); replace HO110 := am (Rb_ HO110.out hb); have HO113 := am (Kd.R_lower ho0 (below_size (pL HB.out))); replace BK101 := am (bb_ BK101.out hb); replace HB := am (bs_ HB.out hb); (try clear hb); (try clear hb2); (try clear hk); (try clear hi); (try clear ho0); (have en_ := hnil_ (nil_of c10b0); subst en_); (try clear hnil_)) | ((with_reducible refine gate_callee (f := 54) rfl ?_); refine goesL_ (some 49) rfl rfl Try.func54 (by kernel_rfl) rfl #[.int .i64 (t102.length : Int), .slice Ao35 t105.length co35, .slice Ao36 t108.length co36] rfl (by (try simp only [List.map_toArray, List.map_cons, List.map_nil]); first | done | rfl | (simp only [List.length_drop, List.length_take]; rfl)) ?_; (with_reducible refine (strata_levels.calls k (t102.length : Int) _ _ t105 _ _ t108 t119 _ ?side1 ?side2 ?side3 ?side4 A28.out).mono ?_); (case side1 => repeat (first | exact (Kd.R_reads' HO107.out).2.2 | (with_reducible refine Kd.C_alloc ?_ _) | (with_reducible refine Kd.C_drewN ?_ _) | (with_reducible refine Kd.C_drew ?_))); (case side2 => exact (Kd.R_reads' HO107.out).2.1); (case side3 => repeat (first | exact (Kd.R_reads' HO110.out).2.2 | (with_reducible refine Kd.C_alloc ?_ _) | (with_reducible refine Kd.C_drewN ?_ _) | (with_reducible refine Kd.C_drew ?_))); (case side4 => exact (Kd.R_reads' HO110.out).2.1); rintro e w38 ⟨v120, rfl, ho0, hb⟩; refine ⟨_, rfl, ?_⟩; replace HO104 := am (Rb_ HO104.out hb); replace HO107 := am (Rb_ HO107.out hb); replace HO110 := am (Rb_ HO110.out hb); have HO121 := am (Kd.R_lower (Kd.R_new' ho0 (Kd.R_lt (pR HO113.out))) (below_size (pL HB.out))); replace HO113 := am (Kd.R_elder' (pR HO113.out) (Kd.R_base ho0) hb); replace BK101 := am (bb_ BK101.out hb); replace HB := am (bs_ HB.out hb); (try clear hb); (try clear hb2); (try clear hk); (try clear hi); (try clear ho0)))
   go_ret3
   exact ⟨_, _, by first | rfl | (simp [errW_none, errW_some] <;> rfl) | (simp [*, errW_none, errW_some] <;> rfl), by (with_reducible repeat (first | apply Ra | apply Rn | apply Rd)); exact Kd.R_mono HO121.out (fun _ hk => trivial), by first | exact Kd.R_nil _ _ _ _ _ | exact Kd.N_nil _ _ _ _ _ | exact Kd.V_nil _ _ _ _ _ | exact Kd.Q_nil _ _ _ _ _ | exact Kd.S_nil _ _ _ _ _, pL HB.out⟩
mutual
def lambrequinref08_Uses.l0 : Nat → List (Decl) → Int → List (Decl) → List (Rule) → Option ((List (Decl)))
 | 0, _, _, _, _ => none
 | k + 1, x3, x4, x102000, x102001 => if x4 < (x102001.length : Int) then (if 0 ≤ x4 then (if x3.length < 5864062014805 then (lambrequinref08_Uses.l1 k (x3 ++ [(⟨(rd_T64 x102001 x4).head.pred, (((rd_T64 x102001 x4).head.args).length : Int)⟩ : Decl)]) x4 0 x102000 x102001 ((rd_T64 x102001 x4).head.pred) ((rd_T64 x102001 x4).head.args) ((rd_T64 x102001 x4).body)) else (none)) else (none)) else (some x3)
def lambrequinref08_Uses.l1 : Nat → List (Decl) → Int → Int → List (Decl) → List (Rule) → ByteArray → List (Term) → List (Liter) → Option ((List (Decl)))
 | 0, _, _, _, _, _, _, _, _ => none
 | k + 1, x3, x4, x6, x102000, x102001, x110000, x110001, x110002 => if x6 < (x110002.length : Int) then (if 0 ≤ x6 then (if ((rd_T71 x110002 x6).kind) = 1 then (if x3.length < 5864062014805 then (lambrequinref08_Uses.l1 k (x3 ++ [(⟨(rd_T71 x110002 x6).atom.pred, (((rd_T71 x110002 x6).atom.args).length : Int)⟩ : Decl)]) x4 (wrap64 (x6 + 1)) x102000 x102001 x110000 x110001 x110002) else (none)) else (if ((rd_T71 x110002 x6).kind) = 2 then (if x3.length < 5864062014805 then (lambrequinref08_Uses.l1 k (x3 ++ [(⟨(rd_T71 x110002 x6).atom.pred, (((rd_T71 x110002 x6).atom.args).length : Int)⟩ : Decl)]) x4 (wrap64 (x6 + 1)) x102000 x102001 x110000 x110001 x110002) else (none)) else (lambrequinref08_Uses.l1 k x3 x4 (wrap64 (x6 + 1)) x102000 x102001 x110000 x110001 x110002))) else (none)) else (lambrequinref08_Uses.l0 k x3 (wrap64 (x4 + 1)) x102000 x102001)
end
def lambrequinref08_Uses.f (k : Nat) (l0_0 : List (Decl)) (l0_1 : List (Rule)) : Option ((List (Decl))) := (some (([] : List (Decl)) : List (Decl))).bind fun y102 => (if y102.length + l0_0.length < 5864062014805 then (lambrequinref08_Uses.l0 k (y102 ++ l0_0) 0 l0_0 l0_1) else (none))
theorem lambrequinref08_Uses.mono_l : ∀ k, (∀ y0 y1 y2 y3, LeO (lambrequinref08_Uses.l0 k y0 y1 y2 y3) (lambrequinref08_Uses.l0 (k + 1) y0 y1 y2 y3)) ∧ (∀ y0 y1 y2 y3 y4 y5 y6 y7, LeO (lambrequinref08_Uses.l1 k y0 y1 y2 y3 y4 y5 y6 y7) (lambrequinref08_Uses.l1 (k + 1) y0 y1 y2 y3 y4 y5 y6 y7))
 | 0 => ⟨fun _ _ _ _ r h => by simp [lambrequinref08_Uses.l0] at h, fun _ _ _ _ _ _ _ _ r h => by simp [lambrequinref08_Uses.l1] at h⟩
 | k + 1 => by
  obtain ⟨ih0, ih1⟩ := lambrequinref08_Uses.mono_l k
  refine ⟨?_, ?_⟩
  ·intro y0 y1 y2 y3
   unfold lambrequinref08_Uses.l0
   repeat' first
   | (with_reducible exact ih0 _ _ _ _)
   | (with_reducible exact ih1 _ _ _ _ _ _ _ _)
   | (with_reducible exact LeO.refl _)
   | (with_reducible exact LeO.none _)
   | (with_reducible refine LeO.ite ?_ ?_)
   | (with_reducible refine LeO.bind ?_ (fun _ => ?_))
   | exact ih0 _ _ _ _
   | exact ih1 _ _ _ _ _ _ _ _
   | exact LeO.none _
   | refine LeO.ite ?_ ?_
   | refine LeO.bind ?_ (fun _ => ?_)
  ·intro y0 y1 y2 y3 y4 y5 y6 y7
   unfold lambrequinref08_Uses.l1
   repeat' first
   | (with_reducible exact ih0 _ _ _ _)
   | (with_reducible exact ih1 _ _ _ _ _ _ _ _)
   | (with_reducible exact LeO.refl _)
   | (with_reducible exact LeO.none _)
   | (with_reducible refine LeO.ite ?_ ?_)
   | (with_reducible refine LeO.bind ?_ (fun _ => ?_))
   | exact ih0 _ _ _ _
   | exact ih1 _ _ _ _ _ _ _ _
   | exact LeO.none _
   | refine LeO.ite ?_ ?_
   | refine LeO.bind ?_ (fun _ => ?_)
theorem lambrequinref08_Uses.mono : ∀ a0 a1 k, LeO (lambrequinref08_Uses.f k a0 a1) (lambrequinref08_Uses.f (k + 1) a0 a1) := by
 intro a0 a1 k
 obtain ⟨ih0, ih1⟩ := lambrequinref08_Uses.mono_l k
 unfold lambrequinref08_Uses.f
 repeat' first
   | (with_reducible exact ih0 _ _ _ _)
   | (with_reducible exact ih1 _ _ _ _ _ _ _ _)
   | (with_reducible exact LeO.refl _)
   | (with_reducible exact LeO.none _)
   | (with_reducible refine LeO.ite ?_ ?_)
   | (with_reducible refine LeO.bind ?_ (fun _ => ?_))
   | exact ih0 _ _ _ _
   | exact ih1 _ _ _ _ _ _ _ _
   | exact LeO.none _
   | refine LeO.ite ?_ ?_
   | refine LeO.bind ?_ (fun _ => ?_)
set_option maxHeartbeats 8000000 in
set_option maxRecDepth 100000 in
theorem lambrequinref08_Uses.calls (k : Nat) (A0_0 : Option Addr) (c0_0 : Nat) (l0_0 : List (Decl)) (A0_1 : Option Addr) (c0_1 : Nat) (l0_1 : List (Rule)) (r : List (Decl)) (w : World) (hr0_0 : Kd.C k96 w A0_0 l0_0.length l0_0) (hc0_0 : l0_0.length ≤ c0_0) (hr0_1 : Kd.C k64 w A0_1 l0_1.length l0_1) (hc0_1 : l0_1.length ≤ c0_1) (h : lambrequinref08_Uses.f k l0_0 l0_1 = some r) :
  Calls Try.prog 51 #[.agg #[.slice A0_0 l0_0.length c0_0, .slice A0_1 l0_1.length c0_1]] w fun e w' => ∃ v0_ : Value, e = .returned (v0_) ∧ Kd.R k96 96 w' w.heap.size (fun _ => True) v0_ r ∧ Below w.heap.size w w' := by
 have hu50 := Try.underlying50
 have hu64 := Try.underlying64
 have hu96 := Try.underlying96
 have hu71 := Try.underlying71
 have HR0_0 := am hr0_0
 have HC0_0 := am hc0_0
 clear hr0_0 hc0_0
 have HR0_1 := am hr0_1
 have HC0_1 := am hc0_1
 clear hr0_1 hc0_1
 have HB := am (Below.refl w.heap.size w)
 have H : ((some (([] : List (Decl)) : List (Decl))).bind fun y102 => (if y102.length + l0_0.length < 5864062014805 then (lambrequinref08_Uses.l0 k (y102 ++ l0_0) 0 l0_0 l0_1) else (none))) = some r := h
 clear h
 obtain ⟨y102, hy102⟩ : ∃ y_ : List (Decl), y_ = (([] : List (Decl))) := ⟨_, rfl⟩
 replace H : (if y102.length + l0_0.length < 5864062014805 then (lambrequinref08_Uses.l0 k (y102 ++ l0_0) 0 l0_0 l0_1) else (none)) = some r := by first | (rw [hy102]; with_reducible exact H) | (have H2_ := (Option.bind_some _ _).symm.trans H; rw [hy102]; with_reducible exact H2_) | (have H2_ := (Option.bind_some _ _).symm.trans H; with_reducible exact H2_) | with_reducible exact H | (rw [hy102]; exact H) | exact H
 have Ny102 := am hy102
 clear hy102
 by_cases c2 : y102.length + l0_0.length < 5864062014805
 ·rw [if_pos c2] at H
  have LMc2 := am c2
  clear c2
  obtain ⟨y105, hy105⟩ : ∃ y_ : List (Decl), y_ = (y102 ++ l0_0) := ⟨_, rfl⟩
  replace H : (lambrequinref08_Uses.l0 k y105 0 l0_0 l0_1) = some r := by first | (rw [hy105]; with_reducible exact H) | (have H2_ := (Option.bind_some _ _).symm.trans H; rw [hy105]; with_reducible exact H2_) | (have H2_ := (Option.bind_some _ _).symm.trans H; with_reducible exact H2_) | with_reducible exact H | (rw [hy105]; exact H) | exact H
  have Ny105 := am hy105
  clear hy105
  have H' := am H
  clear H
  go_enter Try.func51, Try.ntmps51
  go_wp2_with (first | ((with_reducible refine gate_dst (N := 1) rfl ?_); refine box_event ?hg (N := 1) ?hd (cs := #[.slice A0_0 l0_0.length c0_0, .slice A0_1 l0_1.length c0_1]) (t := 50) ?hr ?_; (case hd => rfl); (case hg => rfl); (case hr => first | (go_simp; done) | (go_simp; rfl)); intro gb101 hg w3 hbox hb; have BK101 := am (hbox); have GW101 := am (gw_ hg HB.out); have GE101 := GW101; replace HB := am (bs_ HB.out hb); clear hb hbox hg) | ((with_reducible refine gate_dst (N := 8) rfl ?_); refine Kd.R_lit k96 _ 96 ?hg (N := 8) ?hd (xs := ([] : List (Decl))) (inner := []) (ok := fun _ => True) (okp := fun _ => True) ?hr ?hp (fun _ hk => hk) trivial (Below.refl _ _) (Nat.le_refl _) (by simp) ?_; (case hd => rfl); (case hg => rfl); (case hr => first | (go_simp; done) | (go_simp; rfl)); (case hp => exact (Reps.none _ _)); intro v103 w4 ho5 hb hg_ hnew_; clear hg_ hnew_; (first | rw [← Ny102.out] at ho5 | (simp only [Int.reduceToNat] at ho5; rw [← Ny102.out] at ho5)); have HO104 := am (Kd.R_lower ho5 (below_size (pL HB.out))); replace BK101 := am (bb_ BK101.out hb); replace HB := am (bs_ HB.out hb); clear hb ho5; obtain ⟨hcz6_0, hcz6_1, hfz6_0, hfz6_1⟩ := bc2 BK101.out) | ((with_reducible refine gate_builtin (b := .append) (xs := #[.tmp 8, .tmp 10]) rfl ?_); at_builtin; refine Kd.R_append_rows k96 (w0 := w) w.heap.size rfl (.tmp 8) (.tmp 10) 47 96 (.agg #[(.string ⟨#[]⟩), (.int .i64 0)]) 24 rfl Try.underlying47 info96 rfl (by decide) (by omega) v103 y102 l0_0 _ _ _ (fun _ => True) (fun _ => False) rfl rfl ?aO ?aR (fun _ _ h => h) (fun _ h => h.elim) ?aF ?aB ?aS ?aL ?_; (case aR => repeat (first | exact (Kd.C_below HR0_0.out HB.out) | (with_reducible refine Kd.C_alloc ?_ _) | (with_reducible refine Kd.C_drewN ?_ _) | (with_reducible refine Kd.C_drew ?_))); (case aB => exact (pL HB.out)); (case aF => exact (fun _ _ => trivial)); (case aO => exact (pR HO104.out)); (case aS => exact (below_size (pL HB.out))); (case aL => have := LMc2.out; omega); intro v106 w7 ho hb hg hat; rw [← Ny105.out] at ho; replace BK101 := am (blk_grown (pB BK101.out) hg (Kd.R_ne HO104.out BK101.out (by decide))); replace HB := am (hb); have HO107 := am (ho); clear HO104; clear ho hb hg hat))
  go_loopg [3, 4] k (fun kq v3 v4 w' => ∃ (x3_1 : List (Decl)) (x4_1 : Int), v4 = .int .i64 x4_1 ∧ Aside0 (lambrequinref08_Uses.l0 kq x3_1 x4_1 l0_0 l0_1 = some r) ∧ Aside0 (kq ≤ k) ∧ Aside0 (Kd.R k96 96 w' w.heap.size (fun _ => True) v3 x3_1) ∧ Aside0 (w'.heap[gb101]? = some (.cells #[(.slice A0_0 l0_0.length c0_0), (.slice A0_1 l0_1.length c0_1)] 50 (0, 0))) ∧ Aside0 (Below w.heap.size w w'))
  case atStart => exact ⟨(y105), (0), rs_, H', ⟨Nat.le_refl _⟩, ⟨pR HO107.out⟩, ⟨pB BK101.out⟩, ⟨pL HB.out⟩⟩
  case round =>
   clear H'
   try clear c2
   try clear p2
   try clear c5
   try clear hcz6_0
   try clear hcz6_1
   try clear hfz6_0
   try clear hfz6_1
   obtain ⟨x3_1, x4_1, rfl, HA, HK1, HO_3, BK101, HB⟩ := hrel
   cases gk with
   | zero => exact absurd HA.out (by simp [lambrequinref08_Uses.l0])
   | succ k1 =>
    have H := HA.out
    clear HA
    simp only [lambrequinref08_Uses.l0] at H
    by_cases c8 : x4_1 < (l0_1.length : Int)
    ·rw [if_pos c8] at H
     have c8b0 : decide (x4_1 < (l0_1.length : Int)) = true := decide_eq_true c8
     clear c8
     by_cases c9 : 0 ≤ x4_1
     ·rw [if_pos c9] at H
      have c9b0 : decide (0 ≤ x4_1) = true := decide_eq_true c9
      clear c9
      by_cases c10 : x3_1.length < 5864062014805
      ·rw [if_pos c10] at H
       have LMc10 := am c10
       clear c10
       obtain ⟨y110, hy110⟩ : ∃ y_ : List (Decl), y_ = (x3_1 ++ [(⟨(rd_T64 l0_1 x4_1).head.pred, (((rd_T64 l0_1 x4_1).head.args).length : Int)⟩ : Decl)]) := ⟨_, rfl⟩
       replace H : (lambrequinref08_Uses.l1 k1 y110 x4_1 0 l0_0 l0_1 ((rd_T64 l0_1 x4_1).head.pred) ((rd_T64 l0_1 x4_1).head.args) ((rd_T64 l0_1 x4_1).body)) = some r := by first | (rw [hy110]; with_reducible exact H) | (have H2_ := (Option.bind_some _ _).symm.trans H; rw [hy110]; with_reducible exact H2_) | (have H2_ := (Option.bind_some _ _).symm.trans H; with_reducible exact H2_) | with_reducible exact H | (rw [hy110]; exact H) | exact H
       have Ny110 := am hy110
       clear hy110
       have H' := am H
       clear H
       obtain ⟨hcz11_0, hcz11_1, hfz11_0, hfz11_1⟩ := bc2 BK101.out
       have p108 : 0 ≤ (x4_1 : Int) := dt_
       have q108 : x4_1 < (l0_1.length : Int) := dt_
       obtain ⟨ad108, A108_1, c108_1, A108_2, c108_2, e108, hx108_0, hx108_1, hx108_2, hl108_1, hi108_1, hl108_2, hi108_2⟩ := at_T64 HR0_1.out x4_1 p108 q108
       cases e108
       replace hx108_0 := up_ HB.out hx108_0
       replace hx108_1 := up_ HB.out hx108_1
       replace hx108_2 := up_ HB.out hx108_2
       have HR108_1 := am hi108_1
       have HC108_1 := am hl108_1
       clear hi108_1 hl108_1
       have HR108_2 := am hi108_2
       have HC108_2 := am hl108_2
       clear hi108_2 hl108_2
       replace p108 := eq_true p108
       replace q108 := eq_true q108
       go_wp2_with (first | ((with_reducible refine gate_dst (N := 5) rfl ?_); refine box_event ?hg (N := 5) ?hd (cs := #[.string (⟨#[]⟩ : ByteArray), .slice none 0 0, .slice none 0 0]) (t := 64) ?hr ?_; (case hd => rfl); (case hg => rfl); (case hr => first | (go_simp; done) | (go_simp; rfl)); intro gb109 hg w12 hbox hb; replace HO_3 := am (Rb_ HO_3.out hb); have BK109 := am (hbox); have GW109 := am (gw_ hg HB.out); have GE109 := GW109; replace HB := am (bs_ HB.out hb); have NB101_109 := am (nb_ hg BK101.out); have NB109_101 := am NB101_109.out.symm; replace BK101 := am (bb_ BK101.out hb); clear hb hbox hg; have hnb13 := NB109_101.out; have hnc13 := NB101_109.out; obtain ⟨hcz14_0, hcz14_1, hcz14_2, hfz14_0, hfz14_1, hfz14_2⟩ := bc3 BK109.out) | ((with_reducible refine gate_builtin (b := .append) (xs := #[.tmp 24, .tmp 33]) rfl ?_); at_builtin; refine Kd.R_append k96 (w0 := w) w.heap.size rfl (.tmp 24) (.tmp 33) 47 96 (.agg #[(.string ⟨#[]⟩), (.int .i64 0)]) 24 rfl Try.underlying47 info96 rfl (by decide) (by omega) u3 x3_1 (⟨(rd_T64 l0_1 x4_1).head.pred, (((rd_T64 l0_1 x4_1).head.args).length : Int)⟩ : Decl) [.string ((rd_T64 l0_1 x4_1).head.pred), .int .i64 (((rd_T64 l0_1 x4_1).head.args).length : Int)] (fun _ => True) (fun _ => False) rfl (by first | (go_simp; done) | (go_simp; rfl)) ?aP (fun _ hk => hk.elim) ?aF ?aO ?aB ?aS ?aL ?_; (case aP => exact k96_mkM _ _ _ (⟨(rd_T64 l0_1 x4_1).head.pred, (((rd_T64 l0_1 x4_1).head.args).length : Int)⟩ : Decl)); (case aB => exact (pL HB.out)); (case aF => exact (fun _ _ => trivial)); (case aO => exact (by (with_reducible repeat (first | apply Ra | apply Rn | apply Rd)); exact Kd.R_mono (Rf (Rf (Rf (Kd.R_types HO_3.out BK109.out (by decide))))) (fun _ hk => trivial))); (case aS => exact (below_size (pL HB.out))); (case aL => have := LMc10.out; omega); intro v111 w15 ho hb hg hat; rw [← Ny110.out] at ho; replace BK101 := am (blk_grown (g := gb101) (o := .cells #[.slice A0_0 l0_0.length c0_0, .slice (some ad108) l0_1.length c0_1] 50 (0, 0)) (pF BK101.out) hg (Kd.R_ne HO_3.out BK101.out (by decide))); replace BK109 := am (blk_grown (g := gb109) (o := .cells #[.string ((rd_T64 l0_1 x4_1).head.pred), .slice A108_1 ((rd_T64 l0_1 x4_1).head.args).length c108_1, .slice A108_2 ((rd_T64 l0_1 x4_1).body).length c108_2] 64 (0, 0)) (by (with_reducible repeat (first | refine bN ?_ _ | refine bD ?_ | refine bA ?_ _)); exact bq3 BK109.out) hg (Kd.R_ne HO_3.out BK109.out (by decide))); replace HB := am (hb); have HO112 := am (ho); clear HO_3; clear ho hb hg hat))
       go_loopg [3, 6] k1 (fun kq v3 v6 w' => ∃ (x3_2 : List (Decl)) (x6_2 : Int), v6 = .int .i64 x6_2 ∧ Aside0 (lambrequinref08_Uses.l1 kq x3_2 x4_1 x6_2 l0_0 l0_1 ((rd_T64 l0_1 x4_1).head.pred) ((rd_T64 l0_1 x4_1).head.args) ((rd_T64 l0_1 x4_1).body) = some r) ∧ Aside0 (kq ≤ k1) ∧ Aside0 (Kd.R k96 96 w' w.heap.size (fun _ => True) v3 x3_2) ∧ Aside0 (w'.heap[gb101]? = some (.cells #[(.slice A0_0 l0_0.length c0_0), (.slice (some ad108) l0_1.length c0_1)] 50 (0, 0))) ∧ Aside0 (w'.heap[gb109]? = some (.cells #[.string ((rd_T64 l0_1 x4_1).head.pred), (.slice A108_1 ((rd_T64 l0_1 x4_1).head.args).length c108_1), (.slice A108_2 ((rd_T64 l0_1 x4_1).body).length c108_2)] 64 (0, 0))) ∧ Aside0 (Below w.heap.size w w'))
       case atStart => exact ⟨(y110), (0), rs_, H', ⟨Nat.le_refl _⟩, ⟨pR HO112.out⟩, ⟨pB BK101.out⟩, ⟨pB BK109.out⟩, ⟨pL HB.out⟩⟩
       case round =>
        clear H'
        try clear c1
        try clear p1
        try clear q1
        try clear hx1
        try clear c2
        try clear p2
        try clear c5
        try clear c8
        try clear c8b0
        try clear c9
        try clear c9b0
        try clear c10
        try clear p10
        try clear q10
        try clear hx10
        try clear c13
        try clear hcz11_0
        try clear hcz11_1
        try clear hcz14_0
        try clear hcz14_1
        try clear hcz14_2
        try clear hcz6_0
        try clear hcz6_1
        try clear hfz11_0
        try clear hfz11_1
        try clear hfz14_0
        try clear hfz14_1
        try clear hfz14_2
        try clear hfz6_0
        try clear hfz6_1
        try clear hx108_0
        try clear hx108_1
        try clear hx108_2
        try clear p108
        try clear p2
        try clear q108
        obtain ⟨x3_2, x6_2, rfl, HA, HK2, HO_3, BK101, BK109, HB⟩ := hrel
        cases gk with
        | zero => exact absurd HA.out (by simp [lambrequinref08_Uses.l1])
        | succ k2 =>
         have H := HA.out
         clear HA
         simp only [lambrequinref08_Uses.l1] at H
         by_cases c16 : x6_2 < (((rd_T64 l0_1 x4_1).body).length : Int)
         ·rw [if_pos c16] at H
          have c16b0 : decide (x6_2 < (((rd_T64 l0_1 x4_1).body).length : Int)) = true := decide_eq_true c16
          clear c16
          by_cases c17 : 0 ≤ x6_2
          ·rw [if_pos c17] at H
           have c17b0 : decide (0 ≤ x6_2) = true := decide_eq_true c17
           clear c17
           by_cases c18 : ((rd_T71 ((rd_T64 l0_1 x4_1).body) x6_2).kind) = 1
           ·rw [if_pos c18] at H
            have c18b0 : (((rd_T71 ((rd_T64 l0_1 x4_1).body) x6_2).kind) == 1) = true := beq_iff_eq.mpr c18
            have c18b1 : (((rd_T71 ((rd_T64 l0_1 x4_1).body) x6_2).kind) != 1) = false := bne_eq_false_iff_eq.mpr c18
            clear c18
            by_cases c19 : x3_2.length < 5864062014805
            ·rw [if_pos c19] at H
             have LMc19 := am c19
             clear c19
             obtain ⟨y115, hy115⟩ : ∃ y_ : List (Decl), y_ = (x3_2 ++ [(⟨(rd_T71 ((rd_T64 l0_1 x4_1).body) x6_2).atom.pred, (((rd_T71 ((rd_T64 l0_1 x4_1).body) x6_2).atom.args).length : Int)⟩ : Decl)]) := ⟨_, rfl⟩
             replace H : (lambrequinref08_Uses.l1 k2 y115 x4_1 (wrap64 (x6_2 + 1)) l0_0 l0_1 ((rd_T64 l0_1 x4_1).head.pred) ((rd_T64 l0_1 x4_1).head.args) ((rd_T64 l0_1 x4_1).body)) = some r := by first | (rw [hy115]; with_reducible exact H) | (have H2_ := (Option.bind_some _ _).symm.trans H; rw [hy115]; with_reducible exact H2_) | (have H2_ := (Option.bind_some _ _).symm.trans H; with_reducible exact H2_) | with_reducible exact H | (rw [hy115]; exact H) | exact H
             have Ny115 := am hy115
             clear hy115
             have H' := am H
             clear H
             have hnb20 := NB109_101.out
             have hnc20 := NB101_109.out
             obtain ⟨hcz21_0, hcz21_1, hcz21_2, hfz21_0, hfz21_1, hfz21_2⟩ := bc3 BK109.out
             have p113 : 0 ≤ (x6_2 : Int) := dt_
             have q113 : x6_2 < (((rd_T64 l0_1 x4_1).body).length : Int) := dt_
             obtain ⟨ad113, A113_2, c113_2, e113, hx113_0, hx113_1, hx113_2, hx113_3, hx113_4, hx113_5, hx113_6, hx113_7, hx113_8, hx113_9, hx113_10, hx113_11, hx113_12, hx113_13, hl113_2, hi113_2⟩ := at_T71 HR108_2.out x6_2 p113 q113
             cases e113
             replace hx113_0 := up_ HB.out hx113_0
             replace hx113_1 := up_ HB.out hx113_1
             replace hx113_2 := up_ HB.out hx113_2
             replace hx113_3 := up_ HB.out hx113_3
             replace hx113_4 := up_ HB.out hx113_4
             replace hx113_5 := up_ HB.out hx113_5
             replace hx113_6 := up_ HB.out hx113_6
             replace hx113_7 := up_ HB.out hx113_7
             replace hx113_8 := up_ HB.out hx113_8
             replace hx113_9 := up_ HB.out hx113_9
             replace hx113_10 := up_ HB.out hx113_10
             replace hx113_11 := up_ HB.out hx113_11
             replace hx113_12 := up_ HB.out hx113_12
             replace hx113_13 := up_ HB.out hx113_13
             have HR113_2 := am hi113_2
             have HC113_2 := am hl113_2
             clear hi113_2 hl113_2
             replace p113 := eq_true p113
             replace q113 := eq_true q113
             go_wp2_with (first | ((with_reducible refine gate_dst (N := 7) rfl ?_); refine box_event ?hg (N := 7) ?hd (cs := #[.int .i64 0, .string (⟨#[]⟩ : ByteArray), .slice none 0 0, .string (⟨#[]⟩ : ByteArray), .bool false, .string (⟨#[]⟩ : ByteArray), .bool false, .string (⟨#[]⟩ : ByteArray), .int .i64 0, .bool false, .string (⟨#[]⟩ : ByteArray), .bool false, .string (⟨#[]⟩ : ByteArray), .int .i64 0]) (t := 71) ?hr ?_; (case hd => rfl); (case hg => rfl); (case hr => first | (go_simp; done) | (go_simp; rfl)); intro gb114 hg w22 hbox hb; replace HO_3 := am (Rb_ HO_3.out hb); have BK114 := am (hbox); have GW114 := am (gw_ hg HB.out); have GE114 := GW114; replace HB := am (bs_ HB.out hb); have NB101_114 := am (nb_ hg BK101.out); have NB114_101 := am NB101_114.out.symm; replace BK101 := am (bb_ BK101.out hb); have NB109_114 := am (nb_ hg BK109.out); have NB114_109 := am NB109_114.out.symm; replace BK109 := am (bb_ BK109.out hb); clear hb hbox hg; have hnb23 := NB114_101.out; have hnc23 := NB101_114.out; have hnb24 := NB114_109.out; have hnc24 := NB109_114.out; obtain ⟨hcz25_0, hcz25_1, hcz25_2, hcz25_3, hcz25_4, hcz25_5, hcz25_6, hcz25_7, hcz25_8, hcz25_9, hcz25_10, hcz25_11, hcz25_12, hcz25_13, hfz25_0, hfz25_1, hfz25_2, hfz25_3, hfz25_4, hfz25_5, hfz25_6, hfz25_7, hfz25_8, hfz25_9, hfz25_10, hfz25_11, hfz25_12, hfz25_13⟩ := bc14 BK114.out) | ((with_reducible refine gate_builtin (b := .append) (xs := #[.tmp 55, .tmp 64]) rfl ?_); at_builtin; refine Kd.R_append k96 (w0 := w) w.heap.size rfl (.tmp 55) (.tmp 64) 47 96 (.agg #[(.string ⟨#[]⟩), (.int .i64 0)]) 24 rfl Try.underlying47 info96 rfl (by decide) (by omega) u3 x3_2 (⟨(rd_T71 ((rd_T64 l0_1 x4_1).body) x6_2).atom.pred, (((rd_T71 ((rd_T64 l0_1 x4_1).body) x6_2).atom.args).length : Int)⟩ : Decl) [.string ((rd_T71 ((rd_T64 l0_1 x4_1).body) x6_2).atom.pred), .int .i64 (((rd_T71 ((rd_T64 l0_1 x4_1).body) x6_2).atom.args).length : Int)] (fun _ => True) (fun _ => False) rfl (by first | (go_simp; done) | (go_simp; rfl)) ?aP (fun _ hk => hk.elim) ?aF ?aO ?aB ?aS ?aL ?_; (case aP => exact k96_mkM _ _ _ (⟨(rd_T71 ((rd_T64 l0_1 x4_1).body) x6_2).atom.pred, (((rd_T71 ((rd_T64 l0_1 x4_1).body) x6_2).atom.args).length : Int)⟩ : Decl)); (case aB => exact (pL HB.out)); (case aF => exact (fun _ _ => trivial)); (case aO => exact (by (with_reducible repeat (first | apply Ra | apply Rn | apply Rd)); exact Kd.R_mono (Rf (Rf (Rf (Rf (Rf (Rf (Rf (Rf (Rf (Rf (Rf (Rf (Rf (Rf (Kd.R_types HO_3.out BK114.out (by decide)))))))))))))))) (fun _ hk => trivial))); (case aS => exact (below_size (pL HB.out))); (case aL => have := LMc19.out; omega); intro v116 w26 ho hb hg hat; rw [← Ny115.out] at ho; replace BK101 := am (blk_grown (g := gb101) (o := .cells #[.slice A0_0 l0_0.length c0_0, .slice (some ad108) l0_1.length c0_1] 50 (0, 0)) (pF BK101.out) hg (Kd.R_ne HO_3.out BK101.out (by decide))); replace BK109 := am (blk_grown (g := gb109) (o := .cells #[.string ((rd_T64 l0_1 x4_1).head.pred), .slice A108_1 ((rd_T64 l0_1 x4_1).head.args).length c108_1, .slice (some ad113) ((rd_T64 l0_1 x4_1).body).length c108_2] 64 (0, 0)) (pF BK109.out) hg (Kd.R_ne HO_3.out BK109.out (by decide))); replace BK114 := am (blk_grown (g := gb114) (o := .cells #[.int .i64 ((rd_T71 ((rd_T64 l0_1 x4_1).body) x6_2).kind), .string ((rd_T71 ((rd_T64 l0_1 x4_1).body) x6_2).atom.pred), .slice A113_2 ((rd_T71 ((rd_T64 l0_1 x4_1).body) x6_2).atom.args).length c113_2, .string ((rd_T71 ((rd_T64 l0_1 x4_1).body) x6_2).op), .bool ((rd_T71 ((rd_T64 l0_1 x4_1).body) x6_2).l.isVar), .string ((rd_T71 ((rd_T64 l0_1 x4_1).body) x6_2).l.name), .bool ((rd_T71 ((rd_T64 l0_1 x4_1).body) x6_2).l.val.isSym), .string ((rd_T71 ((rd_T64 l0_1 x4_1).body) x6_2).l.val.sym), .int .i64 ((rd_T71 ((rd_T64 l0_1 x4_1).body) x6_2).l.val.n), .bool ((rd_T71 ((rd_T64 l0_1 x4_1).body) x6_2).r.isVar), .string ((rd_T71 ((rd_T64 l0_1 x4_1).body) x6_2).r.name), .bool ((rd_T71 ((rd_T64 l0_1 x4_1).body) x6_2).r.val.isSym), .string ((rd_T71 ((rd_T64 l0_1 x4_1).body) x6_2).r.val.sym), .int .i64 ((rd_T71 ((rd_T64 l0_1 x4_1).body) x6_2).r.val.n)] 71 (0, 0)) (by (with_reducible repeat (first | refine bN ?_ _ | refine bD ?_ | refine bA ?_ _)); exact bq14 BK114.out) hg (Kd.R_ne HO_3.out BK114.out (by decide))); replace HB := am (hb); have HO117 := am (ho); clear HO_3; clear ho hb hg hat))
             go_roundg k2
             case measure => have := HK1.out; have := HK2.out; omega
             case rel => exact ⟨(y115), (wrap64 (x6_2 + 1)), rs_, H', ⟨by have := HK1.out; have := HK2.out; omega⟩, ⟨pR HO117.out⟩, ⟨pB BK101.out⟩, ⟨pB BK109.out⟩, ⟨pL HB.out⟩⟩
            ·rw [if_neg c19] at H
             exact absurd H (by simp)
           ·rw [if_neg c18] at H
            have c18b0 : (((rd_T71 ((rd_T64 l0_1 x4_1).body) x6_2).kind) == 1) = false := beq_eq_false_iff_ne.mpr c18
            have c18b1 : (((rd_T71 ((rd_T64 l0_1 x4_1).body) x6_2).kind) != 1) = true := bne_iff_ne.mpr c18
            by_cases c27 : ((rd_T71 ((rd_T64 l0_1 x4_1).body) x6_2).kind) = 2
            ·rw [if_pos c27] at H
             have c27b0 : (((rd_T71 ((rd_T64 l0_1 x4_1).body) x6_2).kind) == 2) = true := beq_iff_eq.mpr c27
             have c27b1 : (((rd_T71 ((rd_T64 l0_1 x4_1).body) x6_2).kind) != 2) = false := bne_eq_false_iff_eq.mpr c27
             clear c27
             by_cases c28 : x3_2.length < 5864062014805
             ·rw [if_pos c28] at H
              have LMc28 := am c28
              clear c28
              obtain ⟨y118, hy118⟩ : ∃ y_ : List (Decl), y_ = (x3_2 ++ [(⟨(rd_T71 ((rd_T64 l0_1 x4_1).body) x6_2).atom.pred, (((rd_T71 ((rd_T64 l0_1 x4_1).body) x6_2).atom.args).length : Int)⟩ : Decl)]) := ⟨_, rfl⟩
              replace H : (lambrequinref08_Uses.l1 k2 y118 x4_1 (wrap64 (x6_2 + 1)) l0_0 l0_1 ((rd_T64 l0_1 x4_1).head.pred) ((rd_T64 l0_1 x4_1).head.args) ((rd_T64 l0_1 x4_1).body)) = some r := by first | (rw [hy118]; with_reducible exact H) | (have H2_ := (Option.bind_some _ _).symm.trans H; rw [hy118]; with_reducible exact H2_) | (have H2_ := (Option.bind_some _ _).symm.trans H; with_reducible exact H2_) | with_reducible exact H | (rw [hy118]; exact H) | exact H
              have Ny118 := am hy118
              clear hy118
              have H' := am H
              clear H
              have hnb29 := NB109_101.out
              have hnc29 := NB101_109.out
              obtain ⟨hcz30_0, hcz30_1, hcz30_2, hfz30_0, hfz30_1, hfz30_2⟩ := bc3 BK109.out
              have p113 : 0 ≤ (x6_2 : Int) := dt_
              have q113 : x6_2 < (((rd_T64 l0_1 x4_1).body).length : Int) := dt_
              obtain ⟨ad113, A113_2, c113_2, e113, hx113_0, hx113_1, hx113_2, hx113_3, hx113_4, hx113_5, hx113_6, hx113_7, hx113_8, hx113_9, hx113_10, hx113_11, hx113_12, hx113_13, hl113_2, hi113_2⟩ := at_T71 HR108_2.out x6_2 p113 q113
              cases e113
              replace hx113_0 := up_ HB.out hx113_0
              replace hx113_1 := up_ HB.out hx113_1
              replace hx113_2 := up_ HB.out hx113_2
              replace hx113_3 := up_ HB.out hx113_3
              replace hx113_4 := up_ HB.out hx113_4
              replace hx113_5 := up_ HB.out hx113_5
              replace hx113_6 := up_ HB.out hx113_6
              replace hx113_7 := up_ HB.out hx113_7
              replace hx113_8 := up_ HB.out hx113_8
              replace hx113_9 := up_ HB.out hx113_9
              replace hx113_10 := up_ HB.out hx113_10
              replace hx113_11 := up_ HB.out hx113_11
              replace hx113_12 := up_ HB.out hx113_12
              replace hx113_13 := up_ HB.out hx113_13
              have HR113_2 := am hi113_2
              have HC113_2 := am hl113_2
              clear hi113_2 hl113_2
              replace p113 := eq_true p113
              replace q113 := eq_true q113
              go_wp2_with (first | ((with_reducible refine gate_dst (N := 7) rfl ?_); refine box_event ?hg (N := 7) ?hd (cs := #[.int .i64 0, .string (⟨#[]⟩ : ByteArray), .slice none 0 0, .string (⟨#[]⟩ : ByteArray), .bool false, .string (⟨#[]⟩ : ByteArray), .bool false, .string (⟨#[]⟩ : ByteArray), .int .i64 0, .bool false, .string (⟨#[]⟩ : ByteArray), .bool false, .string (⟨#[]⟩ : ByteArray), .int .i64 0]) (t := 71) ?hr ?_; (case hd => rfl); (case hg => rfl); (case hr => first | (go_simp; done) | (go_simp; rfl)); intro gb114 hg w31 hbox hb; replace HO_3 := am (Rb_ HO_3.out hb); have BK114 := am (hbox); have GW114 := am (gw_ hg HB.out); have GE114 := GW114; replace HB := am (bs_ HB.out hb); have NB101_114 := am (nb_ hg BK101.out); have NB114_101 := am NB101_114.out.symm; replace BK101 := am (bb_ BK101.out hb); have NB109_114 := am (nb_ hg BK109.out); have NB114_109 := am NB109_114.out.symm; replace BK109 := am (bb_ BK109.out hb); clear hb hbox hg; have hnb32 := NB114_101.out; have hnc32 := NB101_114.out; have hnb33 := NB114_109.out; have hnc33 := NB109_114.out; obtain ⟨hcz34_0, hcz34_1, hcz34_2, hcz34_3, hcz34_4, hcz34_5, hcz34_6, hcz34_7, hcz34_8, hcz34_9, hcz34_10, hcz34_11, hcz34_12, hcz34_13, hfz34_0, hfz34_1, hfz34_2, hfz34_3, hfz34_4, hfz34_5, hfz34_6, hfz34_7, hfz34_8, hfz34_9, hfz34_10, hfz34_11, hfz34_12, hfz34_13⟩ := bc14 BK114.out) | ((with_reducible refine gate_builtin (b := .append) (xs := #[.tmp 55, .tmp 64]) rfl ?_); at_builtin; refine Kd.R_append k96 (w0 := w) w.heap.size rfl (.tmp 55) (.tmp 64) 47 96 (.agg #[(.string ⟨#[]⟩), (.int .i64 0)]) 24 rfl Try.underlying47 info96 rfl (by decide) (by omega) u3 x3_2 (⟨(rd_T71 ((rd_T64 l0_1 x4_1).body) x6_2).atom.pred, (((rd_T71 ((rd_T64 l0_1 x4_1).body) x6_2).atom.args).length : Int)⟩ : Decl) [.string ((rd_T71 ((rd_T64 l0_1 x4_1).body) x6_2).atom.pred), .int .i64 (((rd_T71 ((rd_T64 l0_1 x4_1).body) x6_2).atom.args).length : Int)] (fun _ => True) (fun _ => False) rfl (by first | (go_simp; done) | (go_simp; rfl)) ?aP (fun _ hk => hk.elim) ?aF ?aO ?aB ?aS ?aL ?_; (case aP => exact k96_mkM _ _ _ (⟨(rd_T71 ((rd_T64 l0_1 x4_1).body) x6_2).atom.pred, (((rd_T71 ((rd_T64 l0_1 x4_1).body) x6_2).atom.args).length : Int)⟩ : Decl)); (case aB => exact (pL HB.out)); (case aF => exact (fun _ _ => trivial)); (case aO => exact (by (with_reducible repeat (first | apply Ra | apply Rn | apply Rd)); exact Kd.R_mono (Rf (Rf (Rf (Rf (Rf (Rf (Rf (Rf (Rf (Rf (Rf (Rf (Rf (Rf (Kd.R_types HO_3.out BK114.out (by decide)))))))))))))))) (fun _ hk => trivial))); (case aS => exact (below_size (pL HB.out))); (case aL => have := LMc28.out; omega); intro v119 w35 ho hb hg hat; rw [← Ny118.out] at ho; replace BK101 := am (blk_grown (g := gb101) (o := .cells #[.slice A0_0 l0_0.length c0_0, .slice (some ad108) l0_1.length c0_1] 50 (0, 0)) (pF BK101.out) hg (Kd.R_ne HO_3.out BK101.out (by decide))); replace BK109 := am (blk_grown (g := gb109) (o := .cells #[.string ((rd_T64 l0_1 x4_1).head.pred), .slice A108_1 ((rd_T64 l0_1 x4_1).head.args).length c108_1, .slice (some ad113) ((rd_T64 l0_1 x4_1).body).length c108_2] 64 (0, 0)) (pF BK109.out) hg (Kd.R_ne HO_3.out BK109.out (by decide))); replace BK114 := am (blk_grown (g := gb114) (o := .cells #[.int .i64 ((rd_T71 ((rd_T64 l0_1 x4_1).body) x6_2).kind), .string ((rd_T71 ((rd_T64 l0_1 x4_1).body) x6_2).atom.pred), .slice A113_2 ((rd_T71 ((rd_T64 l0_1 x4_1).body) x6_2).atom.args).length c113_2, .string ((rd_T71 ((rd_T64 l0_1 x4_1).body) x6_2).op), .bool ((rd_T71 ((rd_T64 l0_1 x4_1).body) x6_2).l.isVar), .string ((rd_T71 ((rd_T64 l0_1 x4_1).body) x6_2).l.name), .bool ((rd_T71 ((rd_T64 l0_1 x4_1).body) x6_2).l.val.isSym), .string ((rd_T71 ((rd_T64 l0_1 x4_1).body) x6_2).l.val.sym), .int .i64 ((rd_T71 ((rd_T64 l0_1 x4_1).body) x6_2).l.val.n), .bool ((rd_T71 ((rd_T64 l0_1 x4_1).body) x6_2).r.isVar), .string ((rd_T71 ((rd_T64 l0_1 x4_1).body) x6_2).r.name), .bool ((rd_T71 ((rd_T64 l0_1 x4_1).body) x6_2).r.val.isSym), .string ((rd_T71 ((rd_T64 l0_1 x4_1).body) x6_2).r.val.sym), .int .i64 ((rd_T71 ((rd_T64 l0_1 x4_1).body) x6_2).r.val.n)] 71 (0, 0)) (by (with_reducible repeat (first | refine bN ?_ _ | refine bD ?_ | refine bA ?_ _)); exact bq14 BK114.out) hg (Kd.R_ne HO_3.out BK114.out (by decide))); replace HB := am (hb); have HO120 := am (ho); clear HO_3; clear ho hb hg hat))
              go_roundg k2
              case measure => have := HK1.out; have := HK2.out; omega
              case rel => exact ⟨(y118), (wrap64 (x6_2 + 1)), rs_, H', ⟨by have := HK1.out; have := HK2.out; omega⟩, ⟨pR HO120.out⟩, ⟨pB BK101.out⟩, ⟨pB BK109.out⟩, ⟨pL HB.out⟩⟩
             ·rw [if_neg c28] at H
              exact absurd H (by simp)
            ·rw [if_neg c27] at H
             have c27b0 : (((rd_T71 ((rd_T64 l0_1 x4_1).body) x6_2).kind) == 2) = false := beq_eq_false_iff_ne.mpr c27
             have c27b1 : (((rd_T71 ((rd_T64 l0_1 x4_1).body) x6_2).kind) != 2) = true := bne_iff_ne.mpr c27
             have H' := am H
             clear H
             have hnb36 := NB109_101.out
             have hnc36 := NB101_109.out
             obtain ⟨hcz37_0, hcz37_1, hcz37_2, hfz37_0, hfz37_1, hfz37_2⟩ := bc3 BK109.out
             have p113 : 0 ≤ (x6_2 : Int) := dt_
             have q113 : x6_2 < (((rd_T64 l0_1 x4_1).body).length : Int) := dt_
             obtain ⟨ad113, A113_2, c113_2, e113, hx113_0, hx113_1, hx113_2, hx113_3, hx113_4, hx113_5, hx113_6, hx113_7, hx113_8, hx113_9, hx113_10, hx113_11, hx113_12, hx113_13, hl113_2, hi113_2⟩ := at_T71 HR108_2.out x6_2 p113 q113
             cases e113
             replace hx113_0 := up_ HB.out hx113_0
             replace hx113_1 := up_ HB.out hx113_1
             replace hx113_2 := up_ HB.out hx113_2
             replace hx113_3 := up_ HB.out hx113_3
             replace hx113_4 := up_ HB.out hx113_4
             replace hx113_5 := up_ HB.out hx113_5
             replace hx113_6 := up_ HB.out hx113_6
             replace hx113_7 := up_ HB.out hx113_7
             replace hx113_8 := up_ HB.out hx113_8
             replace hx113_9 := up_ HB.out hx113_9
             replace hx113_10 := up_ HB.out hx113_10
             replace hx113_11 := up_ HB.out hx113_11
             replace hx113_12 := up_ HB.out hx113_12
             replace hx113_13 := up_ HB.out hx113_13
             have HR113_2 := am hi113_2
             have HC113_2 := am hl113_2
             clear hi113_2 hl113_2
             replace p113 := eq_true p113
             replace q113 := eq_true q113
             go_wp2_with (first | ((with_reducible refine gate_dst (N := 7) rfl ?_); refine box_event ?hg (N := 7) ?hd (cs := #[.int .i64 0, .string (⟨#[]⟩ : ByteArray), .slice none 0 0, .string (⟨#[]⟩ : ByteArray), .bool false, .string (⟨#[]⟩ : ByteArray), .bool false, .string (⟨#[]⟩ : ByteArray), .int .i64 0, .bool false, .string (⟨#[]⟩ : ByteArray), .bool false, .string (⟨#[]⟩ : ByteArray), .int .i64 0]) (t := 71) ?hr ?_; (case hd => rfl); (case hg => rfl); (case hr => first | (go_simp; done) | (go_simp; rfl)); intro gb114 hg w38 hbox hb; replace HO_3 := am (Rb_ HO_3.out hb); have BK114 := am (hbox); have GW114 := am (gw_ hg HB.out); have GE114 := GW114; replace HB := am (bs_ HB.out hb); have NB101_114 := am (nb_ hg BK101.out); have NB114_101 := am NB101_114.out.symm; replace BK101 := am (bb_ BK101.out hb); have NB109_114 := am (nb_ hg BK109.out); have NB114_109 := am NB109_114.out.symm; replace BK109 := am (bb_ BK109.out hb); clear hb hbox hg; have hnb39 := NB114_101.out; have hnc39 := NB101_114.out; have hnb40 := NB114_109.out; have hnc40 := NB109_114.out; obtain ⟨hcz41_0, hcz41_1, hcz41_2, hcz41_3, hcz41_4, hcz41_5, hcz41_6, hcz41_7, hcz41_8, hcz41_9, hcz41_10, hcz41_11, hcz41_12, hcz41_13, hfz41_0, hfz41_1, hfz41_2, hfz41_3, hfz41_4, hfz41_5, hfz41_6, hfz41_7, hfz41_8, hfz41_9, hfz41_10, hfz41_11, hfz41_12, hfz41_13⟩ := bc14 BK114.out))
             go_roundg k2
             case measure => have := HK1.out; have := HK2.out; omega
             case rel => exact ⟨(x3_2), (wrap64 (x6_2 + 1)), rs_, H', ⟨by have := HK1.out; have := HK2.out; omega⟩, ⟨by (with_reducible repeat (first | apply Ra | apply Rn | apply Rd)); exact Kd.R_mono (Rf (Rf (Rf (Rf (Rf (Rf (Rf (Rf (Rf (Rf (Rf (Rf (Rf (Rf (Kd.R_types HO_3.out BK114.out (by decide)))))))))))))))) (fun _ hk => trivial)⟩, ⟨pF BK101.out⟩, ⟨pF BK109.out⟩, ⟨pL HB.out⟩⟩
          ·rw [if_neg c17] at H
           exact absurd H (by simp)
         ·rw [if_neg c16] at H
          have c16b0 : decide (x6_2 < (((rd_T64 l0_1 x4_1).body).length : Int)) = false := decide_eq_false c16
          clear c16
          have H' := am H
          clear H
          have hnb42 := NB109_101.out
          have hnc42 := NB101_109.out
          obtain ⟨hcz43_0, hcz43_1, hcz43_2, hfz43_0, hfz43_1, hfz43_2⟩ := bc3 BK109.out
          go_wp2
          go_roundg k2
          case measure => have := HK1.out; have := HK2.out; omega
          case rel => exact ⟨(x3_2), (wrap64 (x4_1 + 1)), rs_, H', ⟨by have := HK1.out; have := HK2.out; omega⟩, ⟨pR HO_3.out⟩, ⟨pB BK101.out⟩, ⟨pL HB.out⟩⟩
      ·rw [if_neg c10] at H
       exact absurd H (by simp)
     ·rw [if_neg c9] at H
      exact absurd H (by simp)
    ·rw [if_neg c8] at H
     have c8b0 : decide (x4_1 < (l0_1.length : Int)) = false := decide_eq_false c8
     clear c8
     obtain rfl := Option.some.inj H
     obtain ⟨hcz44_0, hcz44_1, hfz44_0, hfz44_1⟩ := bc2 BK101.out
     go_wp2
     go_ret
     exact ⟨_, by first | rfl | (simp [errW_none, errW_some] <;> rfl) | (simp [*, errW_none, errW_some] <;> rfl), by (with_reducible repeat (first | apply Ra | apply Rn | apply Rd)); exact HO_3.out, pL HB.out⟩
 ·rw [if_neg c2] at H
  exact absurd H (by simp)
def lambrequinlaw11_few.f (k : Nat) (l0_0 : List (Decl)) (l0_1 : List (Rule)) : Option (Bool) := (lambrequinref08_Uses.f k l0_0 l0_1).bind fun t102 => (some (decide ((t102.length : Int) ≤ 60)))
theorem lambrequinlaw11_few.mono : ∀ a0 a1 k, LeO (lambrequinlaw11_few.f k a0 a1) (lambrequinlaw11_few.f (k + 1) a0 a1) := by
 intro a0 a1 k
 unfold lambrequinlaw11_few.f
 repeat' first
   | (with_reducible exact lambrequinref08_Uses.mono _ _ _)
   | (with_reducible exact LeO.refl _)
   | (with_reducible exact LeO.none _)
   | (with_reducible refine LeO.ite ?_ ?_)
   | (with_reducible refine LeO.bind ?_ (fun _ => ?_))
   | exact lambrequinref08_Uses.mono _ _ _
   | exact LeO.none _
   | refine LeO.ite ?_ ?_
   | refine LeO.bind ?_ (fun _ => ?_)
set_option maxHeartbeats 8000000 in
set_option maxRecDepth 100000 in
theorem lambrequinlaw11_few.calls (k : Nat) (A0_0 : Option Addr) (c0_0 : Nat) (l0_0 : List (Decl)) (A0_1 : Option Addr) (c0_1 : Nat) (l0_1 : List (Rule)) (r : Bool) (w : World) (hr0_0 : Kd.C k96 w A0_0 l0_0.length l0_0) (hc0_0 : l0_0.length ≤ c0_0) (hr0_1 : Kd.C k64 w A0_1 l0_1.length l0_1) (hc0_1 : l0_1.length ≤ c0_1) (h : lambrequinlaw11_few.f k l0_0 l0_1 = some r) :
  Calls Try.prog 28 #[.agg #[.slice A0_0 l0_0.length c0_0, .slice A0_1 l0_1.length c0_1]] w fun e w' => e = .returned (.bool r) ∧ Below w.heap.size w w' := by
 have hu50 := Try.underlying50
 have HR0_0 := Aside0.mk hr0_0
 have HC0_0 := Aside0.mk hc0_0
 clear hr0_0 hc0_0
 have HR0_1 := Aside0.mk hr0_1
 have HC0_1 := Aside0.mk hc0_1
 clear hr0_1 hc0_1
 have HB := Aside0.mk (Below.refl w.heap.size w)
 have H : ((lambrequinref08_Uses.f k l0_0 l0_1).bind fun t102 => (some (decide ((t102.length : Int) ≤ 60)))) = some r := h
 clear h
 replace H := Option.bind_eq_some_iff.mp H
 obtain ⟨t102, A20, H⟩ := H
 replace H : (some (decide ((t102.length : Int) ≤ 60))) = some r := H
 have A2 := Aside0.mk A20
 clear A20
 obtain rfl := Option.some.inj H
 go_enter Try.func28, Try.ntmps28
 go_wp2_with (first | ((with_reducible refine gate_dst (N := 1) rfl ?_); refine box_event ?hg (N := 1) ?hd (cs := #[.slice A0_0 l0_0.length c0_0, .slice A0_1 l0_1.length c0_1]) (t := 50) ?hr ?_; (case hd => rfl); (case hg => rfl); (case hr => first | (go_simp; done) | (go_simp; rfl)); intro gb101 hg w3 hbox hb; have n0_ := Aside0.mk (below_step (by repeat (first | (with_reducible first | exact HB.out | apply below_alloc | apply pw_below_drewN | apply below_drew1) | exact HB.out)) hb); have n1_ := Aside0.mk (hbox); have n2_ := Aside0.mk ((by rw [hg]; exact (below_size (by repeat (first | (with_reducible first | exact HB.out | apply below_alloc | apply pw_below_drewN | apply below_drew1) | exact HB.out))) : w.heap.size ≤ gb101)); have n3_ := Aside0.mk ((by rw [hg]; exact (below_size (by repeat (first | (with_reducible first | exact HB.out | apply below_alloc | apply pw_below_drewN | apply below_drew1) | exact HB.out))) : w.heap.size ≤ gb101)); clear HB; have HB := n0_; have BK101 := n1_; have GW101 := n2_; have GE101 := n3_; clear n0_ n1_ n2_ n3_; clear hb hbox hg; have hcz4_0 : w3.cell? ⟨gb101, 0, none⟩ = some (.slice A0_0 l0_0.length c0_0) := (blk_cell BK101.out 0).trans rfl; have hcz4_1 : w3.cell? ⟨gb101, 1, none⟩ = some (.slice A0_1 l0_1.length c0_1) := (blk_cell BK101.out 1).trans rfl; have hfz4_0 := blk_frozen BK101.out 0; have hfz4_1 := blk_frozen BK101.out 1) | ((with_reducible refine gate_callee (f := 51) rfl ?_); refine goesL_ (some 4) rfl rfl Try.func51 (by kernel_rfl) rfl #[.agg #[.slice A0_0 l0_0.length c0_0, .slice A0_1 l0_1.length c0_1]] rfl (by (try simp only [List.map_toArray, List.map_cons, List.map_nil]); first | done | rfl | (simp only [List.length_drop, List.length_take]; rfl)) ?_; (with_reducible refine (lambrequinref08_Uses.calls k _ _ l0_0 _ _ l0_1 t102 _ ?side1 ?side2 ?side3 ?side4 A2.out).mono ?_); (case side1 => repeat (first | exact (Kd.C_below HR0_0.out HB.out) | (with_reducible refine Kd.C_alloc ?_ _) | (with_reducible refine Kd.C_drewN ?_ _) | (with_reducible refine Kd.C_drew ?_))); (case side2 => exact HC0_0.out); (case side3 => repeat (first | exact (Kd.C_below HR0_1.out HB.out) | (with_reducible refine Kd.C_alloc ?_ _) | (with_reducible refine Kd.C_drewN ?_ _) | (with_reducible refine Kd.C_drew ?_))); (case side4 => exact HC0_1.out); rintro e w5 ⟨v103, rfl, ho0, hb⟩; refine ⟨_, rfl, ?_⟩; have n0_ := Aside0.mk (Kd.R_lower ho0 (below_size (by repeat (first | (with_reducible first | exact HB.out | apply below_alloc | apply pw_below_drewN | apply below_drew1 | refine below_set ?_ GE101.out) | exact HB.out)))); have n1_ := Aside0.mk (blk_below (g := gb101) (o := .cells #[.slice A0_0 l0_0.length c0_0, .slice A0_1 l0_1.length c0_1] 50 (0, 0)) (by (with_reducible repeat (first | refine blk_drewN ?_ _ | refine blk_drew ?_ | refine blk_alloc ?_ _)); exact BK101.out) hb); have n2_ := Aside0.mk (below_step (by repeat (first | (with_reducible first | exact HB.out | apply below_alloc | apply pw_below_drewN | apply below_drew1 | refine below_set ?_ GE101.out) | exact HB.out)) hb); clear BK101; clear HB; have HO104 := n0_; have BK101 := n1_; have HB := n2_; clear n0_ n1_ n2_; (try clear hb); (try clear hb2); (try clear hk); (try clear hi); (try clear ho0); obtain ⟨Ao6, co6, eo6⟩ := Kd.R_slice HO104.out; subst eo6))
 go_ret
 exact ⟨by first | rfl | (simp [errW_none, errW_some] <;> rfl) | (simp [*, errW_none, errW_some] <;> rfl), by repeat (first | (with_reducible first | exact HB.out | apply below_alloc | apply pw_below_drewN | apply below_drew1 | refine below_set ?_ GE101.out) | exact HB.out)⟩
end Go.Proofs.Ytmlhnjonmjmhdaa.H
/- strata: names, uses, edges -/
namespace Go.Proofs.Ytmlhnjonmjmhdaa.H
open Go.RowKit Go.Proofs.YtmlhnjonmjmhdaaW.PrintWords
/-- a literal that uses a predicate -/
def useB (b : Liter) : Bool := decide (b.kind = 1) || decide (b.kind = 2)
def litN (b : Liter) : ByteArray := b.atom.pred
def ruleN (r : Rule) : List ByteArray := r.head.pred :: (r.body.filter useB).map litN
def declN (d : Decl) : ByteArray := d.pred
def usesN (ds : List Decl) (rs : List Rule) : List ByteArray := ds.map declN ++ rs.flatMap ruleN
theorem fm_len {α β : Type} (f : α → List β) (l : List α) {y : α} (d : List α) {i : Nat} (h : l.drop i = y :: d) : (f y).length + (d.flatMap f).length = ((y :: d).flatMap f).length := by
  rw [List.flatMap_cons, List.length_append]
theorem preds_l2 {rs : List Rule} {x25 x26 : Int} {R : List ByteArray} {bs : List Liter} (hbs : bs.length ≤ 1000000) : ∀ (d : List Liter) (i : Nat) (acc : List ByteArray), bs.drop i = d → acc.length + (d.filter useB).length ≤ 1000000 →
    Ev (fun k => strata_Preds.l1 k (acc ++ (d.filter useB).map litN) rs x25 (wrap64 (x26 + 1))) R → Ev (fun k => strata_Preds.l2 k acc rs x25 x26 bs (bs.length : Int) (i : Int)) R
  | [], i, acc, hd, hl, h => by
    refine Ev.step (fun k => by rw [strata_Preds.l2]) ?_
    refine Ev.neg (drop_end hd) ?_
    simpa using h
  | y :: d, i, acc, hd, hl, h => by
    obtain ⟨h1, h2, h3, h4, h5⟩ := drop_more hd (by omega)
    have e : rd_T71 bs (i : Int) = y := h3 _
    refine Ev.step (fun k => by rw [strata_Preds.l2]) ?_
    rw [e, h5]
    clear h5
    refine Ev.pos h1 (Ev.pos h2 (Ev.pos h1 ?_))
    by_cases c1 : y.kind = 1
    · have hu : useB y = true := by unfold useB; simp [c1]
      rw [List.filter_cons_of_pos hu] at h hl
      rw [List.length_cons] at hl
      rw [List.map_cons, List.append_cons] at h
      refine Ev.pos c1 (Ev.pos (by omega) (preds_l2 hbs d (i + 1) _ h4 (by rw [List.length_append, List.length_singleton]; omega) h))
    · refine Ev.neg c1 ?_
      by_cases c2 : y.kind = 2
      · have hu : useB y = true := by unfold useB; simp [c2]
        rw [List.filter_cons_of_pos hu] at h hl
        rw [List.length_cons] at hl
        rw [List.map_cons, List.append_cons] at h
        refine Ev.pos c2 (Ev.pos (by omega) (preds_l2 hbs d (i + 1) _ h4 (by rw [List.length_append, List.length_singleton]; omega) h))
      · have hu : ¬ useB y = true := by unfold useB; simp [c1, c2]
        rw [List.filter_cons_of_neg hu] at h hl
        exact Ev.neg c2 (preds_l2 hbs d (i + 1) acc h4 hl h)
theorem ruleN_len (r : Rule) : (ruleN r).length = (r.body.filter useB).length + 1 := by
  unfold ruleN
  rw [List.length_cons, List.length_map]
theorem preds_l1 {rs : List Rule} (hrs : rs.length ≤ 1000000) (hb : ∀ r ∈ rs, r.body.length ≤ 1000000) : ∀ (d : List Rule) (i : Nat) (acc : List ByteArray), rs.drop i = d → acc.length + (d.flatMap ruleN).length ≤ 1000000 →
    Ev (fun k => strata_Preds.l1 k acc rs (rs.length : Int) (i : Int)) (setS (acc ++ d.flatMap ruleN))
  | [], i, acc, hd, hl => by
    refine Ev.step (fun k => by rw [strata_Preds.l1]) ?_
    refine Ev.neg (drop_end hd) ?_
    refine Ev.pure (a := sortS acc) ?_ (Ev.pure (a := compactS (sortS acc)) rfl (Ev.some ?_))
    · unfold slices_Sort_string_string.f
      rw [if_pos (by omega)]
    · simp [setS]
  | y :: d, i, acc, hd, hl => by
    obtain ⟨h1, h2, h3, h4, h5⟩ := drop_more hd (by omega)
    have e : rd_T64 rs (i : Int) = y := h3 _
    have hyb := hb y (List.mem_of_mem_drop (by rw [hd]; exact List.mem_cons_self))
    rw [List.flatMap_cons, List.length_append, ruleN_len] at hl
    refine Ev.step (fun k => by rw [strata_Preds.l1]) ?_
    rw [e]
    refine Ev.pos h1 (Ev.pos h2 (Ev.pos h1 (Ev.pos (by omega) ?_)))
    refine preds_l2 hyb y.body 0 _ rfl (by rw [List.length_append, List.length_singleton]; omega) ?_
    rw [h5]
    have next := preds_l1 hrs hb d (i + 1) (acc ++ [y.head.pred] ++ (y.body.filter useB).map litN) h4 (by rw [List.length_append, List.length_append, List.length_singleton, List.length_map]; omega)
    have e2 : acc ++ [y.head.pred] ++ (y.body.filter useB).map litN ++ d.flatMap ruleN = acc ++ (y :: d).flatMap ruleN := by
      rw [List.flatMap_cons]
      simp [ruleN]
    rw [e2] at next
    exact next
theorem preds_l0 {ds : List Decl} {rs : List Rule} (hds : ds.length ≤ 1000000) (hrs : rs.length ≤ 1000000) (hb : ∀ r ∈ rs, r.body.length ≤ 1000000) : ∀ (d : List Decl) (i : Nat) (acc : List ByteArray), ds.drop i = d → acc.length + d.length + (rs.flatMap ruleN).length ≤ 1000000 →
    Ev (fun k => strata_Preds.l0 k acc ds (ds.length : Int) (i : Int) ds rs) (setS (acc ++ d.map declN ++ rs.flatMap ruleN))
  | [], i, acc, hd, hl => by
    refine Ev.step (fun k => by rw [strata_Preds.l0]) ?_
    refine Ev.neg (drop_end hd) ?_
    have := preds_l1 hrs hb rs 0 acc rfl (by simpa using hl)
    simpa using this
  | y :: d, i, acc, hd, hl => by
    obtain ⟨h1, h2, h3, h4, h5⟩ := drop_more hd (by omega)
    have e : rd_T96 ds (i : Int) = y := h3 _
    have next := preds_l0 hds hrs hb d (i + 1) (acc ++ [y.pred]) h4 (by rw [List.length_append, List.length_singleton]; rw [List.length_cons] at hl; omega)
    refine Ev.step (fun k => by rw [strata_Preds.l0]) ?_
    rw [e, h5]
    clear h5
    rw [List.length_cons] at hl
    refine Ev.pos h1 (Ev.pos h2 (Ev.pos h1 (Ev.pos (by omega) ?_)))
    have e2 : acc ++ [y.pred] ++ d.map declN = acc ++ (y :: d).map declN := by simp [declN]
    rw [e2] at next
    exact next
theorem Preds_ev {ds : List Decl} {rs : List Rule} (hb : ∀ r ∈ rs, r.body.length ≤ 1000000) (hu : (usesN ds rs).length ≤ 100000) : Ev (fun k => strata_Preds.f k ds rs) (setS (usesN ds rs)) := by
  have hrl : rs.length ≤ (rs.flatMap ruleN).length := by
    clear hu hb
    induction rs with
    | nil => simp
    | cons r rs ih => rw [List.flatMap_cons, List.length_append, ruleN_len, List.length_cons]; omega
  unfold usesN at hu
  rw [List.length_append, List.length_map] at hu
  unfold strata_Preds.f
  have := preds_l0 (ds := ds) (rs := rs) (by omega) (by omega) hb ds 0 [] rfl (by simp only [List.length_nil]; omega)
  simpa [usesN] using this
def ruleD (r : Rule) : List Decl := ⟨r.head.pred, (r.head.args.length : Int)⟩ :: (r.body.filter useB).map fun b => ⟨b.atom.pred, (b.atom.args.length : Int)⟩
theorem uses_l1 {ds : List Decl} {rs : List Rule} {x4 : Int} {p : ByteArray} {ts : List Term} {bs : List Liter} (hbs : bs.length ≤ 9223372036854775807) : ∀ (d : List Liter) (i : Nat) (acc : List Decl), bs.drop i = d →
    (∀ R, Ev (fun k => lambrequinref08_Uses.l0 k (acc ++ (d.filter useB).map fun b => ⟨b.atom.pred, (b.atom.args.length : Int)⟩) (wrap64 (x4 + 1)) ds rs) R → acc.length + (d.filter useB).length < 5864062014805 → Ev (fun k => lambrequinref08_Uses.l1 k acc x4 (i : Int) ds rs p ts bs) R)
  | [], i, acc, hd, R, h, hl => by
    refine Ev.step (fun k => by rw [lambrequinref08_Uses.l1]) ?_
    refine Ev.neg (drop_end hd) ?_
    simpa using h
  | y :: d, i, acc, hd, R, h, hl => by
    obtain ⟨h1, h2, h3, h4, h5⟩ := drop_more hd hbs
    have e : rd_T71 bs (i : Int) = y := h3 _
    refine Ev.step (fun k => by rw [lambrequinref08_Uses.l1]) ?_
    rw [e, h5]
    clear h5
    refine Ev.pos h1 (Ev.pos h2 ?_)
    by_cases c1 : y.kind = 1
    · have hu : useB y = true := by unfold useB; simp [c1]
      rw [List.filter_cons_of_pos hu] at h hl
      rw [List.length_cons] at hl
      rw [List.map_cons, List.append_cons] at h
      exact Ev.pos c1 (Ev.pos (by omega) (uses_l1 hbs d (i + 1) _ h4 R h (by rw [List.length_append, List.length_singleton]; omega)))
    · refine Ev.neg c1 ?_
      by_cases c2 : y.kind = 2
      · have hu : useB y = true := by unfold useB; simp [c2]
        rw [List.filter_cons_of_pos hu] at h hl
        rw [List.length_cons] at hl
        rw [List.map_cons, List.append_cons] at h
        exact Ev.pos c2 (Ev.pos (by omega) (uses_l1 hbs d (i + 1) _ h4 R h (by rw [List.length_append, List.length_singleton]; omega)))
      · have hu : ¬ useB y = true := by unfold useB; simp [c1, c2]
        rw [List.filter_cons_of_neg hu] at h hl
        exact Ev.neg c2 (uses_l1 hbs d (i + 1) acc h4 R h hl)
theorem ruleD_len (r : Rule) : (ruleD r).length = (ruleN r).length := by simp [ruleD, ruleN]
theorem uses_l0 {ds : List Decl} {rs : List Rule} (hrs : rs.length ≤ 9223372036854775807) (hb : ∀ r ∈ rs, r.body.length ≤ 9223372036854775807) : ∀ (d : List Rule) (i : Nat) (acc : List Decl), rs.drop i = d → acc.length + (d.flatMap ruleD).length < 5864062014805 →
    Ev (fun k => lambrequinref08_Uses.l0 k acc (i : Int) ds rs) (acc ++ d.flatMap ruleD)
  | [], i, acc, hd, hl => by
    refine Ev.step (fun k => by rw [lambrequinref08_Uses.l0]) ?_
    exact Ev.neg (drop_end hd) (Ev.some (by simp))
  | y :: d, i, acc, hd, hl => by
    obtain ⟨h1, h2, h3, h4, h5⟩ := drop_more hd hrs
    have e : rd_T64 rs (i : Int) = y := h3 _
    have hyb := hb y (List.mem_of_mem_drop (by rw [hd]; exact List.mem_cons_self))
    rw [List.flatMap_cons, List.length_append, ruleD_len, ruleN_len] at hl
    refine Ev.step (fun k => by rw [lambrequinref08_Uses.l0]) ?_
    rw [e]
    refine Ev.pos h1 (Ev.pos h2 (Ev.pos (by omega) ?_))
    refine uses_l1 hyb y.body 0 _ rfl _ ?_ (by rw [List.length_append, List.length_singleton]; omega)
    rw [h5]
    have next := uses_l0 (ds := ds) hrs hb d (i + 1) (acc ++ [⟨y.head.pred, (y.head.args.length : Int)⟩] ++ (y.body.filter useB).map fun b => ⟨b.atom.pred, (b.atom.args.length : Int)⟩) h4 (by rw [List.length_append, List.length_append, List.length_singleton, List.length_map]; omega)
    have e2 : acc ++ [⟨y.head.pred, (y.head.args.length : Int)⟩] ++ ((y.body.filter useB).map fun b => (⟨b.atom.pred, (b.atom.args.length : Int)⟩ : Decl)) ++ d.flatMap ruleD = acc ++ (y :: d).flatMap ruleD := by
      rw [List.flatMap_cons]
      simp [ruleD]
    rw [e2] at next
    exact next
theorem fmD_len (rs : List Rule) : (rs.flatMap ruleD).length = (rs.flatMap ruleN).length := by
  induction rs with
  | nil => rfl
  | cons r rs ih => rw [List.flatMap_cons, List.flatMap_cons, List.length_append, List.length_append, ruleD_len, ih]
theorem few_ev {ds : List Decl} {rs : List Rule} (hrs : rs.length ≤ 9223372036854775807) (hb : ∀ r ∈ rs, r.body.length ≤ 9223372036854775807) (hu : (usesN ds rs).length < 5864062014805) : Ev (fun k => lambrequinlaw11_few.f k ds rs) (decide ((usesN ds rs).length ≤ 60)) := by
  unfold usesN at hu
  rw [List.length_append, List.length_map] at hu
  have h := uses_l0 (ds := ds) hrs hb rs 0 ([] ++ ds) rfl (by rw [List.nil_append, fmD_len]; exact hu)
  unfold lambrequinlaw11_few.f lambrequinref08_Uses.f
  refine Ev.bind (a := [] ++ ds ++ rs.flatMap ruleD) (Ev.pure rfl (Ev.pos (by simp only [List.length_nil]; omega) h)) (Ev.some ?_)
  rw [Bool.eq_iff_iff, decide_eq_true_iff, decide_eq_true_iff]
  unfold usesN
  rw [List.nil_append, List.length_append, List.length_append, List.length_map, fmD_len]
  omega
end Go.Proofs.Ytmlhnjonmjmhdaa.H
/- strata: the edges between predicates, the ring -/
namespace Go.Proofs.Ytmlhnjonmjmhdaa.H
open Go.RowKit Go.Proofs.YtmlhnjonmjmhdaaW.PrintWords
def negB (b : Liter) : Bool := decide (b.kind = 2)
def edgeOf (p : List ByteArray) (r : Rule) (b : Liter) : IPair := ⟨idxS p r.head.pred, idxS p b.atom.pred⟩
def ruleE (p : List ByteArray) (r : Rule) : List IPair := (r.body.filter useB).map (edgeOf p r)
def ruleG (p : List ByteArray) (r : Rule) : List IPair := (r.body.filter negB).map (edgeOf p r)
def allE (p : List ByteArray) (rs : List Rule) : List IPair := rs.flatMap (ruleE p)
def negE (p : List ByteArray) (rs : List Rule) : List IPair := rs.flatMap (ruleG p)
theorem EdgesAt_eq {p : List ByteArray} (hp : p.length ≤ 1000000) (s : ByteArray) : EdgesAt.f s p = some (idxS p s) := by unfold EdgesAt.f; rw [if_pos hp]
theorem edges_l1 {p : List ByteArray} (hp : p.length ≤ 1000000) {rs : List Rule} {x17 x18 : Int} {r : Rule} {R : List IPair × List IPair} (hbs : r.body.length ≤ 1000000) : ∀ (d : List Liter) (i : Nat) (all neg : List IPair), r.body.drop i = d → all.length + d.length ≤ 10000000 → neg.length + d.length ≤ 10000000 →
    Ev (fun k => strata_edges.l0 k (all ++ (d.filter useB).map (edgeOf p r)) (neg ++ (d.filter negB).map (edgeOf p r)) rs x17 (wrap64 (x18 + 1)) p) R → Ev (fun k => strata_edges.l1 k all neg rs x17 x18 r.body (r.body.length : Int) (i : Int) p r.head.pred r.head.args r.body) R
  | [], i, all, neg, hd, ha, hn, h => by
    refine Ev.step (fun k => by rw [strata_edges.l1]) ?_
    refine Ev.neg (drop_end hd) ?_
    simpa using h
  | y :: d, i, all, neg, hd, ha, hn, h => by
    obtain ⟨h1, h2, h3, h4, h5⟩ := drop_more hd (by omega)
    have e : rd_T71 r.body (i : Int) = y := h3 _
    rw [List.length_cons] at ha hn
    refine Ev.step (fun k => by rw [strata_edges.l1]) ?_
    rw [e]
    refine Ev.pos h1 (Ev.pos h2 (Ev.pos h1 ?_))
    have skip : useB y = false → Ev (fun k => strata_edges.l1 k all neg rs x17 x18 r.body (r.body.length : Int) (wrap64 ((i : Int) + 1)) p r.head.pred r.head.args r.body) R := by
      intro hu
      have hg : ¬ negB y = true := by unfold useB at hu; unfold negB; simp at hu ⊢; exact hu.2
      rw [List.filter_cons_of_neg (by rw [hu]; decide), List.filter_cons_of_neg hg] at h
      rw [h5]
      exact edges_l1 hp hbs d (i + 1) all neg h4 (by omega) (by omega) h
    have take : useB y = true → Ev (fun k => (EdgesAt.f r.head.pred p).bind fun t107 => ((EdgesAt.f y.atom.pred p).bind fun t108 => (if all.length < 8796093022208 then (strata_edges.j3 k (all ++ [(⟨t107, t108⟩ : IPair)]) neg rs x17 x18 r.body (r.body.length : Int) (i : Int) (y.kind == 2) p r.head.pred r.head.args r.body t107 t108) else (none)))) R := by
      intro hu
      rw [List.filter_cons_of_pos hu, List.map_cons, List.append_cons all (edgeOf p r y)] at h
      refine Ev.pure (EdgesAt_eq hp _) (Ev.pure (EdgesAt_eq hp _) (Ev.pos (by omega) ?_))
      refine Ev.step (fun k => by rw [strata_edges.j3]) ?_
      by_cases c : y.kind = 2
      · have hg : negB y = true := by unfold negB; simp [c]
        rw [List.filter_cons_of_pos hg, List.map_cons, List.append_cons neg (edgeOf p r y)] at h
        refine Ev.pos (by simp [c]) (Ev.pos (by omega) ?_)
        rw [h5]
        exact edges_l1 hp hbs d (i + 1) _ _ h4 (by rw [List.length_append, List.length_singleton]; omega) (by rw [List.length_append, List.length_singleton]; omega) h
      · have hg : ¬ negB y = true := by unfold negB; simp [c]
        rw [List.filter_cons_of_neg hg] at h
        refine Ev.neg (by simp [c]) ?_
        rw [h5]
        exact edges_l1 hp hbs d (i + 1) _ _ h4 (by rw [List.length_append, List.length_singleton]; omega) (by omega) h
    by_cases c1 : y.kind = 1
    · refine Ev.pos c1 ?_
      refine Ev.step (fun k => by rw [strata_edges.j2]) ?_
      exact Ev.neg (by decide) (take (by unfold useB; simp [c1]))
    · refine Ev.neg c1 ?_
      refine Ev.step (fun k => by rw [strata_edges.j2]) ?_
      by_cases c2 : y.kind = 2
      · exact Ev.neg (by simp [c2]) (take (by unfold useB; simp [c2]))
      · exact Ev.pos (by simp [c2]) (skip (by unfold useB; simp [c1, c2]))
theorem flt_le {f : Liter → Bool} (l : List Liter) : (l.filter f).length ≤ l.length := List.length_filter_le _ _
theorem edges_l0 {p : List ByteArray} (hp : p.length ≤ 1000000) {rs : List Rule} (hrs : rs.length ≤ 1000000) (hb : ∀ r ∈ rs, r.body.length ≤ 1000000) : ∀ (d : List Rule) (i : Nat) (all neg : List IPair), rs.drop i = d → (∀ j, all.length + ((d.take j).flatMap (ruleE p)).length ≤ 2000000) → (∀ j, neg.length + ((d.take j).flatMap (ruleG p)).length ≤ 2000000) →
    Ev (fun k => strata_edges.l0 k all neg rs (rs.length : Int) (i : Int) p) (all ++ d.flatMap (ruleE p), neg ++ d.flatMap (ruleG p))
  | [], i, all, neg, hd, ha, hn => by
    refine Ev.step (fun k => by rw [strata_edges.l0]) ?_
    exact Ev.neg (drop_end hd) (Ev.some (by simp))
  | y :: d, i, all, neg, hd, ha, hn => by
    obtain ⟨h1, h2, h3, h4, h5⟩ := drop_more hd (by omega)
    have e : rd_T64 rs (i : Int) = y := h3 _
    have hyb := hb y (List.mem_of_mem_drop (by rw [hd]; exact List.mem_cons_self))
    have ha0 := ha 0
    have hn0 := hn 0
    simp only [List.take_zero, List.flatMap_nil, List.length_nil] at ha0 hn0
    refine Ev.step (fun k => by rw [strata_edges.l0]) ?_
    rw [e]
    refine Ev.pos h1 (Ev.pos h2 (Ev.pos h1 ?_))
    refine edges_l1 hp hyb y.body 0 all neg rfl (by omega) (by omega) ?_
    rw [h5]
    have next := edges_l0 hp hrs hb d (i + 1) (all ++ ruleE p y) (neg ++ ruleG p y) h4 (fun j => by
      have := ha (j + 1)
      rw [List.take_succ_cons, List.flatMap_cons, List.length_append] at this
      rw [List.length_append]; omega) (fun j => by
      have := hn (j + 1)
      rw [List.take_succ_cons, List.flatMap_cons, List.length_append] at this
      rw [List.length_append]; omega)
    rw [List.append_assoc, List.append_assoc] at next
    rw [List.flatMap_cons, List.flatMap_cons]
    exact next
theorem fmE_le (p : List ByteArray) (f : List ByteArray → Rule → List IPair) (hf : ∀ r, (f p r).length ≤ (ruleN r).length) : ∀ (rs : List Rule) (j : Nat), ((rs.take j).flatMap (f p)).length ≤ (rs.flatMap ruleN).length
  | [], j => by simp
  | r :: rs, 0 => by simp
  | r :: rs, j + 1 => by
    rw [List.take_succ_cons, List.flatMap_cons, List.flatMap_cons, List.length_append, List.length_append]
    have h1 := hf r
    have h2 := fmE_le p f hf rs j
    omega
theorem ruleE_le (p : List ByteArray) (r : Rule) : (ruleE p r).length ≤ (ruleN r).length := by
  rw [ruleN_len]; unfold ruleE; rw [List.length_map]; omega
theorem ruleG_le (p : List ByteArray) (r : Rule) : (ruleG p r).length ≤ (ruleN r).length := by
  rw [ruleN_len]
  unfold ruleG
  rw [List.length_map]
  have : (r.body.filter negB).length ≤ (r.body.filter useB).length := by
    induction r.body with
    | nil => simp
    | cons y d ih =>
      by_cases h : negB y = true
      · have hu : useB y = true := by unfold negB at h; unfold useB; simp at h; simp [h]
        rw [List.filter_cons_of_pos h, List.filter_cons_of_pos hu, List.length_cons, List.length_cons]; omega
      · rw [List.filter_cons_of_neg h]
        by_cases hu : useB y = true
        · rw [List.filter_cons_of_pos hu, List.length_cons]; omega
        · rw [List.filter_cons_of_neg hu]; exact ih
  omega
theorem uses_parts {ds : List Decl} {rs : List Rule} : (usesN ds rs).length = ds.length + (rs.flatMap ruleN).length ∧ rs.length ≤ (rs.flatMap ruleN).length := by
  refine ⟨by unfold usesN; rw [List.length_append, List.length_map], ?_⟩
  induction rs with
  | nil => simp
  | cons r rs ih => rw [List.flatMap_cons, List.length_append, ruleN_len, List.length_cons]; omega
theorem Edges_ev {ds : List Decl} {rs : List Rule} {p : List ByteArray} (hp : p.length ≤ 1000000) (hb : ∀ r ∈ rs, r.body.length ≤ 1000000) (hu : (usesN ds rs).length ≤ 100000) : Ev (fun k => strata_edges.f k ds rs p) (allE p rs, negE p rs) := by
  obtain ⟨h1, h2⟩ := uses_parts (ds := ds) (rs := rs)
  unfold strata_edges.f
  have := edges_l0 hp (rs := rs) (by omega) hb rs 0 [] [] rfl (fun j => by have := fmE_le p ruleE (ruleE_le p) rs j; simp only [List.length_nil]; omega) (fun j => by have := fmE_le p ruleG (ruleG_le p) rs j; simp only [List.length_nil]; omega)
  exact this
theorem allE_len {ds : List Decl} {rs : List Rule} (p : List ByteArray) : (allE p rs).length ≤ (usesN ds rs).length ∧ (negE p rs).length ≤ (usesN ds rs).length := by
  obtain ⟨h1, _⟩ := uses_parts (ds := ds) (rs := rs)
  have h2 := fmE_le p ruleE (ruleE_le p) rs rs.length
  have h3 := fmE_le p ruleG (ruleG_le p) rs rs.length
  rw [List.take_length] at h2 h3
  unfold allE negE
  omega
theorem idx_in {p : List ByteArray} {s : ByteArray} (h : s ∈ p) : 0 ≤ idxS p s ∧ idxS p s < (p.length : Int) := by
  have hr := idxS_range p s
  refine ⟨?_, hr.2⟩
  have h0 : ∀ (l : List ByteArray) (i : Nat), s ∈ l → 0 ≤ idxP (fun y => decide (y = s)) l i := by
    intro l
    induction l with
    | nil => intro i h; cases h
    | cons y l ih =>
      intro i h
      unfold idxP
      split
      · omega
      · rename_i hy
        rcases List.mem_cons.1 h with rfl | h
        · exact absurd (decide_eq_true rfl) hy
        · exact ih _ h
  exact h0 p 0 h
theorem mem_uses_head {ds : List Decl} {rs : List Rule} {r : Rule} (hr : r ∈ rs) : r.head.pred ∈ setS (usesN ds rs) := by
  rw [mem_setS]
  unfold usesN
  exact List.mem_append_right _ (List.mem_flatMap.2 ⟨r, hr, List.mem_cons_self⟩)
theorem mem_uses_body {ds : List Decl} {rs : List Rule} {r : Rule} {b : Liter} (hr : r ∈ rs) (hb : b ∈ r.body) (hu : useB b = true) : b.atom.pred ∈ setS (usesN ds rs) := by
  rw [mem_setS]
  unfold usesN
  exact List.mem_append_right _ (List.mem_flatMap.2 ⟨r, hr, List.mem_cons_of_mem _ (List.mem_map.2 ⟨b, List.mem_filter.2 ⟨hb, hu⟩, rfl⟩)⟩)
theorem mem_allE {p : List ByteArray} {rs : List Rule} {e : IPair} : e ∈ allE p rs ↔ ∃ r ∈ rs, ∃ b ∈ r.body, useB b = true ∧ e = edgeOf p r b := by
  unfold allE ruleE
  rw [List.mem_flatMap]
  constructor
  · rintro ⟨r, hr, h⟩
    obtain ⟨b, hb, rfl⟩ := List.mem_map.1 h
    obtain ⟨h1, h2⟩ := List.mem_filter.1 hb
    exact ⟨r, hr, b, h1, h2, rfl⟩
  · rintro ⟨r, hr, b, h1, h2, rfl⟩
    exact ⟨r, hr, List.mem_map.2 ⟨b, List.mem_filter.2 ⟨h1, h2⟩, rfl⟩⟩
theorem mem_negE {p : List ByteArray} {rs : List Rule} {e : IPair} : e ∈ negE p rs ↔ ∃ r ∈ rs, ∃ b ∈ r.body, b.kind = 2 ∧ e = edgeOf p r b := by
  unfold negE ruleG
  rw [List.mem_flatMap]
  constructor
  · rintro ⟨r, hr, h⟩
    obtain ⟨b, hb, rfl⟩ := List.mem_map.1 h
    obtain ⟨h1, h2⟩ := List.mem_filter.1 hb
    exact ⟨r, hr, b, h1, by simpa [negB] using h2, rfl⟩
  · rintro ⟨r, hr, b, h1, h2, rfl⟩
    exact ⟨r, hr, List.mem_map.2 ⟨b, List.mem_filter.2 ⟨h1, by simpa [negB] using h2⟩, rfl⟩⟩
theorem allE_in (ds : List Decl) (rs : List Rule) : inE (setS (usesN ds rs)).length (allE (setS (usesN ds rs)) rs) := by
  intro e he
  obtain ⟨r, hr, b, hb, hu, rfl⟩ := mem_allE.1 he
  have h1 := idx_in (mem_uses_head (ds := ds) hr)
  have h2 := idx_in (mem_uses_body (ds := ds) hr hb hu)
  exact ⟨h1.1, h1.2, h2.1, h2.2⟩
theorem neg_all {p : List ByteArray} {rs : List Rule} {e : IPair} (h : e ∈ negE p rs) : e ∈ allE p rs := by
  obtain ⟨r, hr, b, hb, hk, rfl⟩ := mem_negE.1 h
  exact mem_allE.2 ⟨r, hr, b, hb, by unfold useB; simp [hk], rfl⟩
end Go.Proofs.Ytmlhnjonmjmhdaa.H
/- strata: no ring, and the levels -/
namespace Go.Proofs.Ytmlhnjonmjmhdaa.H
open Go.RowKit Go.Proofs.YtmlhnjonmjmhdaaW.PrintWords
theorem good_of {n : Nat} {l : List IPair} (hn : n ≤ 1000) (h : inE n l) : cleanBad (n : Int) l = false := by
  unfold cleanBad
  have : l.any (outP n) = false := by
    rw [List.any_eq_false]
    intro e he
    have := h e he
    unfold outP inW
    simp
    omega
  rw [this]
  simp
  omega
theorem ring_l0 {n : Nat} {all c : List IPair} (hn : n ≤ 1000) (hl : all.length ≤ 1000000) (ha : inE n all) (hc : inE n c) (hcl : c.length ≤ 1000000) : ∀ (d : List IPair) (i : Nat), c.drop i = d →
    ∃ r, Ev (fun k => strata_ring.l0 k (n : Int) all c (c.length : Int) (i : Int)) r ∧ (r = [] ∧ (∀ e ∈ d, ¬ Rch (rws n all) e.snd.toNat e.fst.toNat) ∨ (0 < r.length ∧ r.length ≤ 1000000 ∧ ∀ v ∈ r, 0 ≤ v ∧ v < (n : Int)) ∧ ∃ e ∈ d, Rch (rws n all) e.snd.toNat e.fst.toNat)
  | [], i, hd => by
    refine ⟨[], ?_, .inl ⟨rfl, fun e he => absurd he List.not_mem_nil⟩⟩
    refine Ev.step (fun k => by rw [strata_ring.l0]) ?_
    exact Ev.neg (drop_end hd) (Ev.now _)
  | y :: d, i, hd => by
    obtain ⟨h1, h2, h3, h4, h5⟩ := drop_more hd (by omega)
    have e : rd_T27 c (i : Int) = y := h3 _
    have hy := hc y (List.mem_of_mem_drop (by rw [hd]; exact List.mem_cons_self))
    have hb := good_of hn ha
    have e1 : ((y.snd.toNat : Nat) : Int) = y.snd := Int.toNat_of_nonneg hy.2.2.1
    have e2 : ((y.fst.toNat : Nat) : Int) = y.fst := Int.toNat_of_nonneg hy.1
    by_cases hr : Rch (rws n all) y.snd.toNat y.fst.toNat
    · obtain ⟨p, hp, hpi, _⟩ := (Path_is hl hb (a := y.snd.toNat) (b := y.fst.toNat) (by clear h5; omega) (by clear h5; omega)).1 hr
      rw [e1, e2] at hp
      have hpos := hpi.pos
      have hf := hpi.few
      rw [rws_len] at hf
      refine ⟨[y.fst] ++ p, ?_, .inr ⟨⟨by simp, by simp; clear h5; omega, ?_⟩, y, List.mem_cons_self, hr⟩⟩
      · refine Ev.step (fun k => by rw [strata_ring.l0]) ?_
        rw [e]
        clear h5
        exact Ev.pos h1 (Ev.pos h2 (Ev.pos h1 (Ev.bind hp (Ev.pos (by omega) (Ev.pure rfl (Ev.pos (by simp; omega) (Ev.now _)))))))
      · intro v hv
        rcases List.mem_append.1 hv with hv | hv
        · rw [List.mem_singleton.1 hv]; exact ⟨hy.1, hy.2.1⟩
        · have := hpi.bnd v hv
          rw [rws_len] at this
          exact this
    · have hp := (Path_is hl hb (a := y.snd.toNat) (b := y.fst.toNat) (by clear h5; omega) (by clear h5; omega)).2 hr
      rw [e1, e2] at hp
      obtain ⟨r, hr1, hr2⟩ := ring_l0 hn hl ha hc hcl d (i + 1) h4
      refine ⟨r, ?_, ?_⟩
      · refine Ev.step (fun k => by rw [strata_ring.l0]) ?_
        rw [e, h5]
        clear h5
        exact Ev.pos h1 (Ev.pos h2 (Ev.pos h1 (Ev.bind hp (Ev.neg (by simp) hr1))))
      · rcases hr2 with ⟨h6, h7⟩ | h6
        · refine .inl ⟨h6, fun e' he' => ?_⟩
          rcases List.mem_cons.1 he' with rfl | he'
          · exact hr
          · exact h7 e' he'
        · obtain ⟨h7, e', he', hr'⟩ := h6
          exact .inr ⟨h7, e', List.mem_cons_of_mem _ he', hr'⟩
theorem Ring_ev {n : Nat} {all neg : List IPair} (hn : n ≤ 1000) (hl : all.length ≤ 1000000) (hl' : neg.length ≤ 1000000) (ha : inE n all) (hg : inE n neg) :
    ∃ r, Ev (fun k => strata_ring.f k (n : Int) all neg) r ∧ (r = [] ∧ (∀ e ∈ neg, ¬ Rch (rws n all) e.snd.toNat e.fst.toNat) ∨ (0 < r.length ∧ r.length ≤ 1000000 ∧ ∀ v ∈ r, 0 ≤ v ∧ v < (n : Int)) ∧ ∃ e ∈ neg, Rch (rws n all) e.snd.toNat e.fst.toNat) := by
  have hb := good_of hn hg
  have hin : inE n (dd (sortL neg)) := inE_of hb
  have hlen : (dd (sortL neg)).length ≤ 1000000 := by
    have h1 := dd_len (sortL neg)
    have h2 := (sortL_perm neg).length_eq
    omega
  obtain ⟨r, h1, h2⟩ := ring_l0 hn hl ha hin hlen _ 0 rfl
  refine ⟨r, ?_, ?_⟩
  · unfold strata_ring.f
    have hcl : graph_Clean.f (n : Int) neg = some (dd (sortL neg), 0) := by unfold graph_Clean.f; rw [if_pos hl', hb]; rfl
    exact Ev.pure hcl h1
  · rcases h2 with ⟨h3, h4⟩ | h3
    · exact .inl ⟨h3, fun e he => h4 e (mem_sortL.2 he)⟩
    · obtain ⟨h5, e, he, hr⟩ := h3
      exact .inr ⟨h5, e, mem_sortL.1 he, hr⟩
theorem contains_l0 {l : List Int} {a : Int} (hl : l.length ≤ 1000000) : ∀ (d : List Int) (i : Nat), l.drop i = d → ∃ r : Int, Ev (fun k => slices_Index_int_int.l0 k l a (l.length : Int) (i : Int)) r ∧ (0 ≤ r ↔ a ∈ d)
  | [], i, hd => by
    refine ⟨-1, ?_, by simp⟩
    refine Ev.step (fun k => by rw [slices_Index_int_int.l0]) ?_
    exact Ev.neg (drop_end hd) (Ev.now _)
  | y :: d, i, hd => by
    obtain ⟨h1, h2, h3, h4, h5⟩ := drop_more hd (by omega)
    have e : rd l (i : Int) = y := h3 _
    by_cases c : a = y
    · refine ⟨(i : Int), ?_, by simp [c]⟩
      refine Ev.step (fun k => by rw [slices_Index_int_int.l0]) ?_
      rw [e]
      exact Ev.pos h1 (Ev.pos h2 (Ev.pos h1 (Ev.pos c (Ev.now _))))
    · obtain ⟨r, hr, hi⟩ := contains_l0 (a := a) hl d (i + 1) h4
      refine ⟨r, ?_, by rw [hi, List.mem_cons]; simp [c]⟩
      refine Ev.step (fun k => by rw [slices_Index_int_int.l0]) ?_
      rw [e, h5]
      exact Ev.pos h1 (Ev.pos h2 (Ev.pos h1 (Ev.neg c hr)))
theorem Contains_ev {l : List Int} {a : Int} (hl : l.length ≤ 1000000) : Ev (fun k => slices_Contains_int_int.f k l a) (decide (a ∈ l)) := by
  obtain ⟨r, hr, hi⟩ := contains_l0 (a := a) hl l 0 rfl
  unfold slices_Contains_int_int.f slices_Index_int_int.f
  refine Ev.bind hr (Ev.some ?_)
  rw [Bool.eq_iff_iff, decide_eq_true_iff, decide_eq_true_iff]
  exact hi
def mxl (c : IPair → Bool) (g : IPair → Int) : Int → List IPair → Int
  | v, [] => v
  | v, e :: l => mxl c g (if c e then mx v (g e) else v) l
theorem mx_le (a b : Int) : a ≤ mx a b ∧ b ≤ mx a b ∧ (mx a b = a ∨ mx a b = b) := by unfold mx; split <;> omega
theorem mxl_ge (c : IPair → Bool) (g : IPair → Int) : ∀ (l : List IPair) (v : Int), v ≤ mxl c g v l
  | [], v => Int.le_refl _
  | e :: l, v => by
    unfold mxl
    refine Int.le_trans ?_ (mxl_ge c g l _)
    split
    · exact (mx_le _ _).1
    · exact Int.le_refl _
theorem mxl_all (c : IPair → Bool) (g : IPair → Int) : ∀ (l : List IPair) (v : Int), ∀ e ∈ l, c e = true → g e ≤ mxl c g v l
  | [], v, e, he, _ => absurd he List.not_mem_nil
  | y :: l, v, e, he, hc => by
    unfold mxl
    rcases List.mem_cons.1 he with rfl | he
    · rw [if_pos hc]
      exact Int.le_trans (mx_le _ _).2.1 (mxl_ge c g l _)
    · exact mxl_all c g l _ e he hc
theorem mxl_is (c : IPair → Bool) (g : IPair → Int) : ∀ (l : List IPair) (v : Int), mxl c g v l = v ∨ ∃ e ∈ l, c e = true ∧ mxl c g v l = g e
  | [], v => .inl rfl
  | y :: l, v => by
    unfold mxl
    by_cases hc : c y = true
    · rw [if_pos hc]
      rcases mxl_is c g l (mx v (g y)) with h | ⟨e, he, h1, h2⟩
      · rcases (mx_le v (g y)).2.2 with h3 | h3
        · exact .inl (h.trans h3)
        · exact .inr ⟨y, List.mem_cons_self, hc, h.trans h3⟩
      · exact .inr ⟨e, List.mem_cons_of_mem _ he, h1, h2⟩
    · rw [if_neg hc]
      rcases mxl_is c g l v with h | ⟨e, he, h1, h2⟩
      · exact .inl h
      · exact .inr ⟨e, List.mem_cons_of_mem _ he, h1, h2⟩
def offB (row : List Int) (e : IPair) : Bool := decide (e.fst ∈ row) && !decide (e.snd ∈ row)
def onB (row : List Int) (e : IPair) : Bool := decide (e.fst ∈ row)
def vAt (out : List Int) (e : IPair) : Int := out.getD e.snd.toNat 0
def vUp (out : List Int) (e : IPair) : Int := out.getD e.snd.toNat 0 + 1
section
variable {n : Nat} {all neg : List IPair} {out row : List Int} {ps : List (List Int)} {x22 x23 : Int} {R : List Int}
theorem lev_l1 (ho : out.length = n) (ha : inE n all) (hl : all.length ≤ 1000000) (hr : row.length ≤ 1000000) : ∀ (d : List IPair) (i : Nat) (v : Int), all.drop i = d → Ev (fun k => strata_levels.l2 k all neg out row (mxl (offB row) (vAt out) v d) ps x22 x23 neg (neg.length : Int) 0) R →
    Ev (fun k => strata_levels.l1 k all neg out row v ps x22 x23 all (all.length : Int) (i : Int)) R
  | [], i, v, hd, h => by
    refine Ev.step (fun k => by rw [strata_levels.l1]) ?_
    exact Ev.neg (drop_end hd) h
  | y :: d, i, v, hd, h => by
    obtain ⟨h1, h2, h3, h4, h5⟩ := drop_more hd (by omega)
    have e : rd_T27 all (i : Int) = y := h3 _
    have hy := ha y (List.mem_of_mem_drop (by rw [hd]; exact List.mem_cons_self))
    have erd : rd out y.snd = vAt out y := rfl
    unfold mxl at h
    refine Ev.step (fun k => by rw [strata_levels.l1]) ?_
    rw [e, h5, erd]
    clear h5
    refine Ev.pos h1 (Ev.pos h2 (Ev.pos h1 (Ev.bind (Contains_ev hr) ?_)))
    by_cases c1 : y.fst ∈ row
    · refine Ev.pos (by simpa using c1) (Ev.bind (Contains_ev hr) ?_)
      by_cases c2 : y.snd ∈ row
      · rw [if_neg (by unfold offB; simp [c2])] at h
        exact Ev.pos (by simpa using c2) (lev_l1 ho ha hl hr d (i + 1) v h4 h)
      · rw [if_pos (by unfold offB; simp [c1, c2])] at h
        exact Ev.neg (by simpa using c2) (Ev.pos hy.2.2.1 (Ev.pos (by omega) (lev_l1 ho ha hl hr d (i + 1) _ h4 h)))
    · rw [if_neg (by unfold offB; simp [c1])] at h
      exact Ev.neg (by simpa using c1) (lev_l1 ho ha hl hr d (i + 1) v h4 h)
theorem lev_l2 (ho : out.length = n) (hv : ∀ v ∈ out, 0 ≤ v ∧ v ≤ 1000000) (hg : inE n neg) (hl : neg.length ≤ 1000000) (hr : row.length ≤ 1000000) : ∀ (d : List IPair) (i : Nat) (v : Int), neg.drop i = d → Ev (fun k => strata_levels.l3 k all neg out (mxl (onB row) (vUp out) v d) ps x22 x23 row (row.length : Int) 0) R →
    Ev (fun k => strata_levels.l2 k all neg out row v ps x22 x23 neg (neg.length : Int) (i : Int)) R
  | [], i, v, hd, h => by
    refine Ev.step (fun k => by rw [strata_levels.l2]) ?_
    exact Ev.neg (drop_end hd) h
  | y :: d, i, v, hd, h => by
    obtain ⟨h1, h2, h3, h4, h5⟩ := drop_more hd (by omega)
    have e : rd_T27 neg (i : Int) = y := h3 _
    have hy := hg y (List.mem_of_mem_drop (by rw [hd]; exact List.mem_cons_self))
    have hyl : y.snd.toNat < out.length := by clear h5; omega
    have hvy := hv (out[y.snd.toNat]) (List.getElem_mem hyl)
    have eg : out.getD y.snd.toNat 0 = out[y.snd.toNat] := by rw [List.getD_eq_getElem?_getD, List.getElem?_eq_getElem hyl]; rfl
    have erd : wrap64 (rd out y.snd + 1) = vUp out y := by
      show wrap64 (out.getD y.snd.toNat 0 + 1) = out.getD y.snd.toNat 0 + 1
      rw [eg]
      clear h5
      unfold wrap64
      omega
    unfold mxl at h
    refine Ev.step (fun k => by rw [strata_levels.l2]) ?_
    rw [e, h5, erd]
    clear h5 erd
    refine Ev.pos h1 (Ev.pos h2 (Ev.pos h1 (Ev.bind (Contains_ev hr) ?_)))
    by_cases c1 : y.fst ∈ row
    · rw [if_pos (by unfold onB; simp [c1])] at h
      exact Ev.pos (by simpa using c1) (Ev.pos hy.2.2.1 (Ev.pos (by omega) (lev_l2 ho hv hg hl hr d (i + 1) _ h4 h)))
    · rw [if_neg (by unfold onB; simp [c1])] at h
      exact Ev.neg (by simpa using c1) (lev_l2 ho hv hg hl hr d (i + 1) v h4 h)
def putL (L : Int) (out : List Int) (row : List Int) : List Int := row.foldl (fun o x => o.set x.toNat L) out
theorem putL_len (L : Int) : ∀ (row out : List Int), (putL L out row).length = out.length
  | [], out => rfl
  | x :: row, out => by
    have := putL_len L row (out.set x.toNat L)
    rw [List.length_set] at this
    exact this
theorem putL_get (L : Int) (y : Nat) : ∀ (row out : List Int), (∀ x ∈ row, 0 ≤ x ∧ x < (out.length : Int)) → (putL L out row).getD y 0 = if (y : Int) ∈ row then L else out.getD y 0
  | [], out, h => by simp [putL]
  | x :: row, out, h => by
    have hx := h x List.mem_cons_self
    have ih := putL_get L y row (out.set x.toNat L) (fun z hz => by rw [List.length_set]; exact h z (List.mem_cons_of_mem _ hz))
    show (putL L (out.set x.toNat L) row).getD y 0 = _
    rw [ih]
    by_cases c : (y : Int) ∈ row
    · rw [if_pos c, if_pos (List.mem_cons_of_mem _ c)]
    · rw [if_neg c]
      by_cases c2 : x.toNat = y
      · rw [if_pos (List.mem_cons.2 (.inl (by omega))), List.getD_eq_getElem?_getD, c2, List.getElem?_set_self (by omega)]
        rfl
      · rw [getD_set_ne _ _ _ _ c2, if_neg (fun hm => by
          rcases List.mem_cons.1 hm with hm | hm
          · omega
          · exact c hm)]
theorem lev_l3 (L : Int) (hb : ∀ x ∈ row, 0 ≤ x ∧ x < (n : Int)) (hr : row.length ≤ 1000000) : ∀ (d : List Int) (i : Nat) (o : List Int), row.drop i = d → o.length = n → Ev (fun k => strata_levels.l0 k all neg (putL L o d) ps x22 (wrap64 (x23 + 1))) R →
    Ev (fun k => strata_levels.l3 k all neg o L ps x22 x23 row (row.length : Int) (i : Int)) R
  | [], i, o, hd, ho, h => by
    refine Ev.step (fun k => by rw [strata_levels.l3]) ?_
    exact Ev.neg (drop_end hd) h
  | y :: d, i, o, hd, ho, h => by
    obtain ⟨h1, h2, h3, h4, h5⟩ := drop_more hd (by omega)
    have e : rd row (i : Int) = y := h3 _
    have hy := hb y (List.mem_of_mem_drop (by rw [hd]; exact List.mem_cons_self))
    refine Ev.step (fun k => by rw [strata_levels.l3]) ?_
    rw [e, h5]
    clear h5
    exact Ev.pos h1 (Ev.pos h2 (Ev.pos h1 (Ev.pos hy.1 (Ev.pos (by omega) (lev_l3 L hb hr d (i + 1) _ h4 (by rw [List.length_set]; exact ho) h)))))
end
end Go.Proofs.Ytmlhnjonmjmhdaa.H
/- strata: the levels are right, and least -/
namespace Go.Proofs.Ytmlhnjonmjmhdaa.H
open Go.RowKit Go.Proofs.YtmlhnjonmjmhdaaW.PrintWords
/-- numbers that are strata -/
structure Num (all neg : List IPair) (f : Nat → Int) : Prop where
  pos : ∀ i, 0 ≤ f i
  all : ∀ e ∈ all, f e.snd.toNat ≤ f e.fst.toNat
  neg : ∀ e ∈ neg, f e.snd.toNat < f e.fst.toNat
/-- what holds when so many parts have got their level -/
structure LvI (n : Nat) (all neg : List IPair) (xs : List Nat) (j : Nat) (out : List Int) : Prop where
  len : out.length = n
  bnd : ∀ v ∈ out, 0 ≤ v ∧ v ≤ (j : Int)
  le : ∀ e ∈ all, (∃ (i z : Nat), i < j ∧ xs[i]? = some z ∧ Eqv (rws n all) z e.fst.toNat) → out.getD e.snd.toNat 0 ≤ out.getD e.fst.toNat 0
  lt : ∀ e ∈ neg, (∃ (i z : Nat), i < j ∧ xs[i]? = some z ∧ Eqv (rws n all) z e.fst.toNat) → out.getD e.snd.toNat 0 < out.getD e.fst.toNat 0
  least : ∀ f, Num all neg f → ∀ i, i < n → out.getD i 0 ≤ f i
theorem edge_rch {n : Nat} {all : List IPair} (ha : inE n all) {e : IPair} (he : e ∈ all) : Rch (rws n all) e.fst.toNat e.snd.toNat := by
  have := ha e he
  exact .step .refl (mem_rws.2 ⟨by omega, e, he, rfl, rfl⟩)
theorem Num.rch {n : Nat} {all neg : List IPair} {f : Nat → Int} (hf : Num all neg f) (ha : inE n all) {a b : Nat} (h : Rch (rws n all) a b) : f b ≤ f a := by
  induction h with
  | refl => exact Int.le_refl _
  | step _ hy ih =>
    obtain ⟨_, e, he, h1, h2⟩ := mem_rws.1 hy
    have := hf.all e he
    rw [h1, h2] at this
    omega
def levOf (row : List Int) (all neg : List IPair) (out : List Int) : Int := mxl (onB row) (vUp out) (mxl (offB row) (vAt out) 0 all) neg
theorem LvI.next {n : Nat} {all neg : List IPair} {xs : List Nat} {j x : Nat} {out : List Int} (hn : n ≤ 1000) (ha : inE n all) (hg : ∀ e ∈ neg, e ∈ all) (hno : ∀ e ∈ neg, ¬ Rch (rws n all) e.snd.toNat e.fst.toNat) (hc : Cls (rws n all) xs) (hx : xs[j]? = some x) (h : LvI n all neg xs j out) :
    LvI n all neg xs (j + 1) (putL (levOf (partL (tabL (rws n all)) n x) all neg out) out (partL (tabL (rws n all)) n x)) := by
  have hlen := rws_len n all
  have hok := rws_ok (good_of hn ha)
  have hxl := hc.lt x (List.mem_of_getElem? hx)
  have hmem : ∀ v : Int, v ∈ partL (tabL (rws n all)) n x ↔ ∃ y : Nat, v = (y : Int) ∧ y < n ∧ Eqv (rws n all) x y := by
    intro v
    have := mem_partL hok hxl (v := v)
    rw [hlen] at this
    exact this
  generalize hrow : partL (tabL (rws n all)) n x = row at *
  have hrb : ∀ v ∈ row, 0 ≤ v ∧ v < (out.length : Int) := by
    intro v hv
    obtain ⟨y, rfl, hy, _⟩ := (hmem v).1 hv
    rw [h.len]
    omega
  have hget := fun y => putL_get (levOf row all neg out) y row out hrb
  have hin : ∀ y : Nat, y < n → (((y : Nat) : Int) ∈ row ↔ Eqv (rws n all) x y) := by
    intro y hy
    rw [hmem]
    constructor
    · rintro ⟨z, hz, _, he⟩
      have : z = y := by omega
      rw [← this]; exact he
    · intro he
      exact ⟨y, rfl, hy, he⟩
  have htn : ∀ v : Int, 0 ≤ v → ((v.toNat : Nat) : Int) = v := fun v hv => Int.toNat_of_nonneg hv
  -- a value of out
  have hval : ∀ y, 0 ≤ out.getD y 0 ∧ out.getD y 0 ≤ (j : Int) := by
    intro y
    rw [List.getD_eq_getElem?_getD]
    cases he : out[y]? with
    | none => simp
    | some v => exact h.bnd v (List.mem_of_getElem? he)
  -- the level
  have hL0 : 0 ≤ levOf row all neg out := by
    unfold levOf
    exact Int.le_trans (mxl_ge _ _ all 0) (mxl_ge _ _ neg _)
  have hLj : levOf row all neg out ≤ (j : Int) + 1 := by
    unfold levOf
    rcases mxl_is (onB row) (vUp out) neg (mxl (offB row) (vAt out) 0 all) with h1 | ⟨e, he, _, h1⟩
    · rw [h1]
      rcases mxl_is (offB row) (vAt out) all 0 with h2 | ⟨e, he, _, h2⟩
      · rw [h2]; omega
      · rw [h2]; have := (hval e.snd.toNat).2; unfold vAt; omega
    · rw [h1]; have := (hval e.snd.toNat).2; unfold vUp; omega
  have hLall : ∀ e ∈ all, e.fst ∈ row → e.snd ∉ row → out.getD e.snd.toNat 0 ≤ levOf row all neg out := by
    intro e he h1 h2
    unfold levOf
    exact Int.le_trans (mxl_all (offB row) (vAt out) all 0 e he (by unfold offB; simp [h1, h2])) (mxl_ge _ _ neg _)
  have hLneg : ∀ e ∈ neg, e.fst ∈ row → out.getD e.snd.toNat 0 + 1 ≤ levOf row all neg out := by
    intro e he h1
    unfold levOf
    exact mxl_all (onB row) (vUp out) neg _ e he (by unfold onB; simp [h1])
  -- a node of an earlier class is none of this one
  have hsep : ∀ (i z y : Nat), i < j → xs[i]? = some z → y < n → Eqv (rws n all) z y → ¬ ((y : Nat) : Int) ∈ row := by
    intro i z y hi hz hy he hm
    have h2 := (hin y hy).1 hm
    have hil := (List.getElem?_eq_some_iff.1 hz).1
    have hjl := (List.getElem?_eq_some_iff.1 hx).1
    have := (List.pairwise_iff_getElem.1 hc.apart) i j hil hjl hi
    rw [(List.getElem?_eq_some_iff.1 hz).2, (List.getElem?_eq_some_iff.1 hx).2] at this
    exact this (he.trans h2.symm)
  have hold : ∀ e ∈ all, (∃ (i z : Nat), i < j ∧ xs[i]? = some z ∧ Eqv (rws n all) z e.fst.toNat) → ¬ ((e.fst.toNat : Nat) : Int) ∈ row ∧ ¬ ((e.snd.toNat : Nat) : Int) ∈ row := by
    rintro e he ⟨i, z, hi, hz, hez⟩
    have heb := ha e he
    refine ⟨hsep i z _ hi hz (by omega) hez, ?_⟩
    rcases hc.ord i z e.snd.toNat hz (by rw [hlen]; omega) (hez.1.trans (edge_rch ha he)) with h1 | ⟨i', z', hi', hz', he'⟩
    · exact hsep i z _ hi hz (by omega) ⟨hez.1.trans (edge_rch ha he), h1⟩
    · exact hsep i' z' _ (by omega) hz' (by omega) he'
  have hcase : ∀ e ∈ all, (∃ (i z : Nat), i < j + 1 ∧ xs[i]? = some z ∧ Eqv (rws n all) z e.fst.toNat) → (∃ (i z : Nat), i < j ∧ xs[i]? = some z ∧ Eqv (rws n all) z e.fst.toNat) ∨ e.fst ∈ row := by
    rintro e he ⟨i, z, hi, hz, hez⟩
    have heb := ha e he
    by_cases c : i = j
    · rw [c, hx] at hz
      cases hz
      refine .inr ?_
      rw [← htn e.fst heb.1]
      exact (hin _ (by omega)).2 hez
    · exact .inl ⟨i, z, by omega, hz, hez⟩
  refine ⟨(putL_len _ row out).trans h.len, ?_, ?_, ?_, ?_⟩
  · intro v hv
    obtain ⟨y, hy⟩ := List.getElem?_of_mem hv
    have e1 : (putL (levOf row all neg out) out row).getD y 0 = v := by rw [List.getD_eq_getElem?_getD, hy]; rfl
    rw [← e1, hget]
    split
    · omega
    · have := hval y; omega
  · intro e he hp
    have heb := ha e he
    rw [hget, hget]
    rcases hcase e he hp with h1 | h1
    · obtain ⟨h2, h3⟩ := hold e he h1
      rw [if_neg h2, if_neg h3]
      exact h.le e he h1
    · rw [htn e.fst heb.1, if_pos h1, htn e.snd heb.2.2.1]
      split
      · exact Int.le_refl _
      · rename_i h2
        exact hLall e he h1 h2
  · intro e he hp
    have hea := hg e he
    have heb := ha e hea
    rw [hget, hget]
    rcases hcase e hea hp with h1 | h1
    · obtain ⟨h2, h3⟩ := hold e hea h1
      rw [if_neg h2, if_neg h3]
      exact h.lt e he h1
    · rw [htn e.fst heb.1, if_pos h1, htn e.snd heb.2.2.1]
      split
      · rename_i h2
        exfalso
        rw [← htn e.fst heb.1] at h1
        rw [← htn e.snd heb.2.2.1] at h2
        have h3 := (hin _ (by omega)).1 h1
        have h4 := (hin _ (by omega)).1 h2
        exact hno e he (h4.2.trans h3.1)
      · have := hLneg e he h1
        omega
  · intro f hf i hi
    rw [hget]
    split
    · rename_i hm
      have hei := (hin i hi).1 hm
      have same : ∀ e ∈ all, e.fst ∈ row → f e.fst.toNat ≤ f i := by
        intro e he h1
        have heb := ha e he
        rw [← htn e.fst heb.1] at h1
        have h3 := (hin _ (by omega)).1 h1
        exact hf.rch ha (hei.2.trans h3.1)
      unfold levOf
      rcases mxl_is (onB row) (vUp out) neg (mxl (offB row) (vAt out) 0 all) with h1 | ⟨e, he, h2, h1⟩
      · rw [h1]
        rcases mxl_is (offB row) (vAt out) all 0 with h2 | ⟨e, he, h3, h2⟩
        · rw [h2]; exact hf.pos i
        · rw [h2]
          have heb := ha e he
          have h4 : e.fst ∈ row := by unfold offB at h3; simp at h3; exact h3.1
          have h5 := h.least f hf e.snd.toNat (by omega)
          have h6 := hf.all e he
          have h7 := same e he h4
          unfold vAt
          omega
      · rw [h1]
        have hea := hg e he
        have heb := ha e hea
        have h4 : e.fst ∈ row := by unfold onB at h2; simpa using h2
        have h5 := h.least f hf e.snd.toNat (by omega)
        have h6 := hf.neg e he
        have h7 := same e hea h4
        unfold vUp
        omega
    · exact h.least f hf i hi
theorem lev_l0 {n : Nat} {all neg : List IPair} {xs : List Nat} (hn : n ≤ 1000) (hl : all.length ≤ 1000000) (hl' : neg.length ≤ 1000000) (ha : inE n all) (hg : ∀ e ∈ neg, e ∈ all) (hno : ∀ e ∈ neg, ¬ Rch (rws n all) e.snd.toNat e.fst.toNat) (hc : Cls (rws n all) xs) (hxs : xs.length ≤ 1000) :
    ∀ (d : List Nat) (j : Nat) (out : List Int), xs.drop j = d → j ≤ xs.length → LvI n all neg xs j out → ∃ r, Ev (fun k => strata_levels.l0 k all neg out (xs.map (partL (tabL (rws n all)) n)) (((xs.map (partL (tabL (rws n all)) n)).length : Nat) : Int) (j : Int)) r ∧ LvI n all neg xs xs.length r
  | [], j, out, hd, hjn, h => by
    have hj := drop_end hd
    refine ⟨out, ?_, ?_⟩
    · refine Ev.step (fun k => by rw [strata_levels.l0]) ?_
      exact Ev.neg (by rw [List.length_map]; exact hj) (Ev.now _)
    · refine ⟨h.len, ?_, fun e he ⟨i, z, _, hz, hez⟩ => h.le e he ⟨i, z, by have := (List.getElem?_eq_some_iff.1 hz).1; omega, hz, hez⟩, fun e he ⟨i, z, _, hz, hez⟩ => h.lt e he ⟨i, z, by have := (List.getElem?_eq_some_iff.1 hz).1; omega, hz, hez⟩, h.least⟩
      intro v hv
      have := h.bnd v hv
      omega
  | x :: d, j, out, hd, hjn, h => by
    obtain ⟨h1, h2, h3, h4, h5⟩ := drop_more hd (by omega)
    have hx : xs[j]? = some x := by
      have := congrArg (fun z => z[0]?) hd
      simpa using this
    have hjl : j < xs.length := by clear h5; omega
    have hlen := rws_len n all
    have hok := rws_ok (good_of hn ha)
    have hxl := hc.lt x (List.mem_of_getElem? hx)
    have erow : rd_L19 (xs.map (partL (tabL (rws n all)) n)) (j : Int) = partL (tabL (rws n all)) n x := by
      refine getD_at (n := j) ?_ _
      rw [List.getElem?_map, hx]
      rfl
    have hrl : (partL (tabL (rws n all)) n x).length ≤ 1000000 := by have := partL_len (tabL (rws n all)) x n; clear h5; omega
    have hrb : ∀ v ∈ partL (tabL (rws n all)) n x, 0 ≤ v ∧ v < (n : Int) := by
      intro v hv
      have := mem_partL hok hxl (v := v)
      rw [hlen] at this
      obtain ⟨y, rfl, hy, _⟩ := this.1 hv
      clear h5
      omega
    have hbnd : ∀ v ∈ out, 0 ≤ v ∧ v ≤ 1000000 := fun v hv => by have := h.bnd v hv; clear h5; omega
    obtain ⟨r, hr, hR⟩ := lev_l0 hn hl hl' ha hg hno hc hxs d (j + 1) _ h4 hjl (h.next hn ha hg hno hc hx)
    refine ⟨r, ?_, hR⟩
    refine Ev.step (fun k => by rw [strata_levels.l0]) ?_
    refine Ev.pos (by rw [List.length_map]; exact h1) (Ev.pos h2 (Ev.pos (by rw [List.length_map]; exact h1) ?_))
    rw [erow]
    refine lev_l1 h.len ha hl hrl all 0 0 rfl ?_
    refine lev_l2 h.len hbnd (fun e he => ha e (hg e he)) hl' hrl neg 0 _ rfl ?_
    refine lev_l3 (n := n) _ hrb hrl _ 0 out rfl h.len ?_
    rw [h5]
    exact hr
theorem Levels_ev {n : Nat} {all neg : List IPair} (hn : n ≤ 1000) (hl : all.length ≤ 1000000) (hl' : neg.length ≤ 1000000) (ha : inE n all) (hg : ∀ e ∈ neg, e ∈ all) (hno : ∀ e ∈ neg, ¬ Rch (rws n all) e.snd.toNat e.fst.toNat) :
    ∃ r, Ev (fun k => strata_levels.f k (n : Int) all neg) r ∧ r.length = n ∧ (∀ v ∈ r, 0 ≤ v ∧ v ≤ 1000) ∧ (∀ e ∈ all, r.getD e.snd.toNat 0 ≤ r.getD e.fst.toNat 0) ∧ (∀ e ∈ neg, r.getD e.snd.toNat 0 < r.getD e.fst.toNat 0) ∧ ∀ f, Num all neg f → ∀ i, i < n → r.getD i 0 ≤ f i := by
  obtain ⟨xs, hx, hc⟩ := Parts_cls hl (good_of hn ha)
  have hlen := rws_len n all
  have hxs : xs.length ≤ 1000 := by
    have := few_le (fun a b => a = b) xs (List.range n) (fun z hz => ⟨z, List.mem_range.2 (by have := hc.lt z hz; omega), rfl⟩) (hc.apart.imp (fun {a b} hab y hy => hab (by rw [hy.1, hy.2]; exact ⟨.refl, .refl⟩)))
    rw [List.length_range] at this
    omega
  have hz : ∀ y, (List.replicate n (0 : Int)).getD y 0 = 0 := by
    intro y
    rw [List.getD_eq_getElem?_getD, List.getElem?_replicate]
    split <;> rfl
  obtain ⟨r, hr, hR⟩ := lev_l0 hn hl hl' ha hg hno hc hxs xs 0 (List.replicate n 0) rfl (Nat.zero_le _) ⟨by simp, fun v hv => by rw [(List.mem_replicate.1 hv).2]; omega, fun e he ⟨i, z, hi, _⟩ => by omega, fun e he ⟨i, z, hi, _⟩ => by omega, fun f hf i hi => by rw [hz]; exact hf.pos i⟩
  have hall : ∀ e ∈ all, ∃ (i z : Nat), i < xs.length ∧ xs[i]? = some z ∧ Eqv (rws n all) z e.fst.toNat := by
    intro e he
    have heb := ha e he
    obtain ⟨z, hz, hez⟩ := hc.all e.fst.toNat (by rw [hlen]; omega)
    obtain ⟨i, hi⟩ := List.getElem?_of_mem hz
    exact ⟨i, z, (List.getElem?_eq_some_iff.1 hi).1, hi, hez⟩
  refine ⟨r, ?_, hR.len, fun v hv => by have := hR.bnd v hv; omega, fun e he => hR.le e he (hall e he), fun e he => hR.lt e he (hall e (hg e he)), hR.least⟩
  unfold strata_levels.f
  refine Ev.pos (by omega) (Ev.pos (by omega) (Ev.bind hx ?_))
  rw [Int.toNat_natCast]
  exact hr
end Go.Proofs.Ytmlhnjonmjmhdaa.H
namespace Go.Proofs.Ytmlhnjonmjmhdaa.H
open Go.RowKit Go.Proofs.YtmlhnjonmjmhdaaW.PrintWords Go.Proofs.YtmlhnjonmjmhdaaW.PrintLast Go.Proofs.YtmlhnjonmjmhdaaW.PrintMore
attribute [local go_sem] max2_int min2_int max_two min_two max_three min_three max_four min_four
def lambrequinlaw11_rule.f (a0 : ByteArray) (a1 : Int) (a2 : ByteArray) : Option (ByteArray × (List (Term)) × (List (Liter))) := some (a0, ([] : List (Term)), (([(⟨a1, (⟨a2, ([] : List (Term))⟩ : Atom), (⟨#[]⟩ : ByteArray), (⟨false, (⟨#[]⟩ : ByteArray), (⟨false, (⟨#[]⟩ : ByteArray), 0⟩ : Val)⟩ : Term), (⟨false, (⟨#[]⟩ : ByteArray), (⟨false, (⟨#[]⟩ : ByteArray), 0⟩ : Val)⟩ : Term)⟩ : Liter)] : List (Liter))))
set_option maxHeartbeats 8000000 in
set_option maxRecDepth 100000 in
theorem lambrequinlaw11_rule.calls (a0 : ByteArray) (a1 : Int) (a2 : ByteArray) (r1 : ByteArray) (r2 : List (Term)) (r3 : List (Liter)) (w : World) (h : lambrequinlaw11_rule.f a0 a1 a2 = some (r1, r2, r3)) :
  Calls Try.prog 50 #[.string a0, .int .i64 a1, .string a2] w fun e w' => ∃ v1_ v2_ : Value, e = .returned (.agg #[.string r1, v1_, v2_]) ∧ Kd.R k69 69 w' w.heap.size (fun _ => True) v1_ r2 ∧ Kd.S k71 71 w' w.heap.size (fun k_ => some k_ ≠ (v1_ : Value).ownBlock) v2_ r3 ∧ Below w.heap.size w w' := by
 have hu64 := Try.underlying64
 have hu61 := Try.underlying61
 have hu71 := Try.underlying71
 have HB := Aside0.mk (Below.refl w.heap.size w)
 have H : (some (a0, ([] : List (Term)), (([(⟨a1, (⟨a2, ([] : List (Term))⟩ : Atom), (⟨#[]⟩ : ByteArray), (⟨false, (⟨#[]⟩ : ByteArray), (⟨false, (⟨#[]⟩ : ByteArray), 0⟩ : Val)⟩ : Term), (⟨false, (⟨#[]⟩ : ByteArray), (⟨false, (⟨#[]⟩ : ByteArray), 0⟩ : Val)⟩ : Term)⟩ : Liter)] : List (Liter))))) = some (r1, r2, r3) := h
 clear h
 obtain ⟨y102, hy102⟩ : ∃ y_ : List (Liter), y_ = (([(⟨a1, (⟨a2, ([] : List (Term))⟩ : Atom), (⟨#[]⟩ : ByteArray), (⟨false, (⟨#[]⟩ : ByteArray), (⟨false, (⟨#[]⟩ : ByteArray), 0⟩ : Val)⟩ : Term), (⟨false, (⟨#[]⟩ : ByteArray), (⟨false, (⟨#[]⟩ : ByteArray), 0⟩ : Val)⟩ : Term)⟩ : Liter)] : List (Liter))) := ⟨_, rfl⟩
 replace H : (some (a0, ([] : List (Term)), y102)) = some (r1, r2, r3) := by first | (rw [hy102]; with_reducible exact H) | (have H2_ := (Option.bind_some _ _).symm.trans H; rw [hy102]; with_reducible exact H2_) | (have H2_ := (Option.bind_some _ _).symm.trans H; with_reducible exact H2_) | with_reducible exact H | (rw [hy102]; exact H) | exact H
 have Ny102 := Aside0.mk hy102
 clear hy102
 simp only [Option.some.injEq, Prod.mk.injEq] at H
 obtain ⟨rfl, rfl, rfl⟩ := H
 go_enter Try.func50, Try.ntmps50
 go_wp2_with (first | ((with_reducible refine gate_dst (N := 6) rfl ?_); refine box_event ?hg (N := 6) ?hd (cs := #[.string (⟨#[]⟩ : ByteArray), .slice none 0 0, .slice none 0 0]) (t := 64) ?hr ?_; (case hd => rfl); (case hg => rfl); (case hr => first | (go_simp; done) | (go_simp; rfl)); intro gb101 hg w4 hbox hb; have n0_ := Aside0.mk (below_step (by repeat (first | (with_reducible first | exact HB.out | apply below_alloc | apply pw_below_drewN | apply below_drew1) | exact HB.out)) hb); have n1_ := Aside0.mk (hbox); have n2_ := Aside0.mk ((by rw [hg]; exact (below_size (by repeat (first | (with_reducible first | exact HB.out | apply below_alloc | apply pw_below_drewN | apply below_drew1) | exact HB.out))) : w.heap.size ≤ gb101)); have n3_ := Aside0.mk ((by rw [hg]; exact (below_size (by repeat (first | (with_reducible first | exact HB.out | apply below_alloc | apply pw_below_drewN | apply below_drew1) | exact HB.out))) : w.heap.size ≤ gb101)); clear HB; have HB := n0_; have BK101 := n1_; have GW101 := n2_; have GE101 := n3_; clear n0_ n1_ n2_ n3_; clear hb hbox hg) | ((with_reducible refine gate_dst (N := 13) rfl ?_); refine Kd.S_lit k71 _ 71 ?hg (N := 13) ?hd (xs := ([(⟨a1, (⟨a2, ([] : List (Term))⟩ : Atom), (⟨#[]⟩ : ByteArray), (⟨false, (⟨#[]⟩ : ByteArray), (⟨false, (⟨#[]⟩ : ByteArray), 0⟩ : Val)⟩ : Term), (⟨false, (⟨#[]⟩ : ByteArray), (⟨false, (⟨#[]⟩ : ByteArray), 0⟩ : Val)⟩ : Term)⟩ : Liter)] : List (Liter))) (inner := [.int .i64 a1, .string a2, .slice none 0 0, .string (⟨#[]⟩ : ByteArray), .bool false, .string (⟨#[]⟩ : ByteArray), .bool false, .string (⟨#[]⟩ : ByteArray), .int .i64 0, .bool false, .string (⟨#[]⟩ : ByteArray), .bool false, .string (⟨#[]⟩ : ByteArray), .int .i64 0]) (ok := fun _ => True) (okp := fun _ => True) ?hr ?hp (fun _ hk => hk) trivial (Below.refl _ _) (Nat.le_refl _) (by simp) ?_; (case hd => rfl); (case hg => rfl); (case hr => first | (go_simp; done) | (go_simp; rfl)); (case hp => exact (Reps.front (show Kd.M k71 _ _ _ (⟨a1, (⟨a2, ([] : List (Term))⟩ : Atom), (⟨#[]⟩ : ByteArray), (⟨false, (⟨#[]⟩ : ByteArray), (⟨false, (⟨#[]⟩ : ByteArray), 0⟩ : Val)⟩ : Term), (⟨false, (⟨#[]⟩ : ByteArray), (⟨false, (⟨#[]⟩ : ByteArray), 0⟩ : Val)⟩ : Term)⟩ : Liter) [.int .i64 a1, .string a2, .slice none 0 0, .string (⟨#[]⟩ : ByteArray), .bool false, .string (⟨#[]⟩ : ByteArray), .bool false, .string (⟨#[]⟩ : ByteArray), .int .i64 0, .bool false, .string (⟨#[]⟩ : ByteArray), .bool false, .string (⟨#[]⟩ : ByteArray), .int .i64 0] from (k71_mkM _ _ _ (⟨a1, (⟨a2, ([] : List (Term))⟩ : Atom), (⟨#[]⟩ : ByteArray), (⟨false, (⟨#[]⟩ : ByteArray), (⟨false, (⟨#[]⟩ : ByteArray), 0⟩ : Val)⟩ : Term), (⟨false, (⟨#[]⟩ : ByteArray), (⟨false, (⟨#[]⟩ : ByteArray), 0⟩ : Val)⟩ : Term)⟩ : Liter) (Kd.R_nil _ _ _ _ _))) rfl (Reps.none _ _) rfl)); intro v103 w5 ho6 hb hg_ hnew_; clear hg_ hnew_; (first | rw [← Ny102.out] at ho6 | (simp only [Int.reduceToNat] at ho6; rw [← Ny102.out] at ho6)); have n0_ := Aside0.mk (Kd.S_lower ho6 (below_size (by repeat (first | (with_reducible first | exact HB.out | apply below_alloc | apply pw_below_drewN | apply below_drew1 | refine below_set ?_ GE101.out) | exact HB.out)))); have n1_ := Aside0.mk (blk_below (g := gb101) (o := .cells #[.string (⟨#[]⟩ : ByteArray), .slice none 0 0, .slice none 0 0] 64 (0, 0)) (by (with_reducible repeat (first | refine blk_drewN ?_ _ | refine blk_drew ?_ | refine blk_alloc ?_ _)); exact BK101.out) hb); have n2_ := Aside0.mk (below_step (by repeat (first | (with_reducible first | exact HB.out | apply below_alloc | apply pw_below_drewN | apply below_drew1 | refine below_set ?_ GE101.out) | exact HB.out)) hb); clear BK101; clear HB; have HO104 := n0_; have BK101 := n1_; have HB := n2_; clear n0_ n1_ n2_; clear hb ho6; obtain ⟨Ao7, co7, eo7⟩ := Kd.S_slice HO104.out; subst eo7; have hcz8_0 : w5.cell? ⟨gb101, 0, none⟩ = some (.string (⟨#[]⟩ : ByteArray)) := (blk_cell BK101.out 0).trans rfl; have hcz8_1 : w5.cell? ⟨gb101, 1, none⟩ = some (.slice none 0 0) := (blk_cell BK101.out 1).trans rfl; have hcz8_2 : w5.cell? ⟨gb101, 2, none⟩ = some (.slice none 0 0) := (blk_cell BK101.out 2).trans rfl; have hfz8_0 := blk_frozen BK101.out 0; have hfz8_1 := blk_frozen BK101.out 1; have hfz8_2 := blk_frozen BK101.out 2))
 refine bodyPost_ret (results_cell_row rfl _ _ gb101 64 #[.string a0, .slice none 0 0, .slice Ao7 y102.length co7] (0, 0) _ rfl (by (with_reducible repeat (first | refine blk_drewN ?_ _ | refine blk_drew ?_ | refine blk_alloc ?_ _)); refine blk_put (cs := #[.string a0, .slice none 0 0, .slice none 0 0]) ?_ 2 _ rfl; (with_reducible repeat (first | refine blk_drewN ?_ _ | refine blk_drew ?_ | refine blk_alloc ?_ _)); refine blk_put (cs := #[.string a0, .slice none 0 0, .slice none 0 0]) ?_ 1 _ rfl; (with_reducible repeat (first | refine blk_drewN ?_ _ | refine blk_drew ?_ | refine blk_alloc ?_ _)); refine blk_put (cs := #[.string (⟨#[]⟩ : ByteArray), .slice none 0 0, .slice none 0 0]) ?_ 0 _ rfl; (with_reducible repeat (first | refine blk_drewN ?_ _ | refine blk_drew ?_ | refine blk_alloc ?_ _)); exact BK101.out) Try.underlying64 rfl (by kernel_rfl)) rfl ?_
 exact ⟨_, _, by first | rfl | (simp [errW_none, errW_some] <;> rfl) | (simp [*, errW_none, errW_some] <;> rfl), by first | exact Kd.R_nil _ _ _ _ _ | exact Kd.N_nil _ _ _ _ _ | exact Kd.V_nil _ _ _ _ _ | exact Kd.Q_nil _ _ _ _ _ | exact Kd.S_nil _ _ _ _ _, by (with_reducible repeat (first | apply Kd.S_alloc | apply Kd.S_drewN | apply Kd.S_drew)); exact Kd.S_mono (Kd.S_far (p := ⟨gb101, 2, none⟩) (Kd.S_far (p := ⟨gb101, 1, none⟩) (Kd.S_far (p := ⟨gb101, 0, none⟩) (Kd.S_types HO104.out BK101.out (by decide)) (fun _ hk => hk.2) _) (fun _ hk => hk.2) _) (fun _ hk => hk.2) _) (fun _ hk => (by simp [Value.ownBlock])), by repeat (first | (with_reducible first | exact HB.out | apply below_alloc | apply pw_below_drewN | apply below_drew1 | refine below_set ?_ GE101.out) | exact HB.out)⟩
def lambrequinref09_Same.l0 : Nat → List ByteArray → List ByteArray → Int → Option (Bool)
 | 0, _, _, _ => none
 | k + 1, x0, x1, x5 => if x5 < (x0.length : Int) then (if 0 ≤ x5 then (if x5 < (x1.length : Int) then (if (rdOf ByteArray.empty x0 x5).toList = (rdOf ByteArray.empty x1 x5).toList then (lambrequinref09_Same.l0 k x0 x1 (wrap64 (x5 + 1))) else (some false)) else (none)) else (none)) else (some true)
def lambrequinref09_Same.f (k : Nat) (l0 : List ByteArray) (l1 : List ByteArray) : Option (Bool) := if (l0.length : Int) = (l1.length : Int) then (lambrequinref09_Same.l0 k l0 l1 0) else (some false)
theorem lambrequinref09_Same.mono_l : ∀ k, (∀ y0 y1 y2, LeO (lambrequinref09_Same.l0 k y0 y1 y2) (lambrequinref09_Same.l0 (k + 1) y0 y1 y2))
 | 0 => fun _ _ _ r h => by simp [lambrequinref09_Same.l0] at h
 | k + 1 => by
  have ih0 := lambrequinref09_Same.mono_l k
  ·intro y0 y1 y2
   unfold lambrequinref09_Same.l0
   repeat' first
   | (with_reducible exact ih0 _ _ _)
   | (with_reducible exact LeO.refl _)
   | (with_reducible exact LeO.none _)
   | (with_reducible refine LeO.ite ?_ ?_)
   | (with_reducible refine LeO.bind ?_ (fun _ => ?_))
   | exact ih0 _ _ _
   | exact LeO.none _
   | refine LeO.ite ?_ ?_
   | refine LeO.bind ?_ (fun _ => ?_)
theorem lambrequinref09_Same.mono : ∀ a0 a1 k, LeO (lambrequinref09_Same.f k a0 a1) (lambrequinref09_Same.f (k + 1) a0 a1) := by
 intro a0 a1 k
 have ih0 := lambrequinref09_Same.mono_l k
 unfold lambrequinref09_Same.f
 repeat' first
   | (with_reducible exact ih0 _ _ _)
   | (with_reducible exact LeO.refl _)
   | (with_reducible exact LeO.none _)
   | (with_reducible refine LeO.ite ?_ ?_)
   | (with_reducible refine LeO.bind ?_ (fun _ => ?_))
   | exact ih0 _ _ _
   | exact LeO.none _
   | refine LeO.ite ?_ ?_
   | refine LeO.bind ?_ (fun _ => ?_)
set_option maxHeartbeats 8000000 in
set_option maxRecDepth 100000 in
theorem lambrequinref09_Same.calls (k : Nat) (A0 : Option Addr) (c0 : Nat) (l0 : List ByteArray) (A1 : Option Addr) (c1 : Nat) (l1 : List ByteArray) (r : Bool) (w : World) (hr0 : Kd.C Kd.string w A0 l0.length l0) (hc0 : l0.length ≤ c0) (hr1 : Kd.C Kd.string w A1 l1.length l1) (hc1 : l1.length ≤ c1) (h : lambrequinref09_Same.f k l0 l1 = some r) :
  Calls Try.prog 31 #[.slice A0 l0.length c0, .slice A1 l1.length c1] w fun e w' => e = .returned (.bool r) ∧ Drawn0 w w' := by
 have HR0 := Aside0.mk hr0
 have HC0 := Aside0.mk hc0
 clear hr0 hc0
 have HR1 := Aside0.mk hr1
 have HC1 := Aside0.mk hc1
 clear hr1 hc1
 have H : (if (l0.length : Int) = (l1.length : Int) then (lambrequinref09_Same.l0 k l0 l1 0) else (some false)) = some r := h
 clear h
 by_cases c3 : (l0.length : Int) = (l1.length : Int)
 ·rw [if_pos c3] at H
  have c3b0 : ((l0.length : Int) == (l1.length : Int)) = true := beq_iff_eq.mpr c3
  have c3b1 : ((l0.length : Int) != (l1.length : Int)) = false := bne_eq_false_iff_eq.mpr c3
  have c3b2 : (l0.length == l1.length) = true := by first | simpa using c3 | (simp at c3 ⊢; omega)
  clear c3
  have H' := Aside0.mk H
  clear H
  go_enter Try.func31, Try.ntmps31
  go_wp2
  repeat (go_quiet (fail); try go_wp2)
  go_loopg [5] k (fun kq v5 w' => ∃ (x5_1 : Int), v5 = .int .i64 x5_1 ∧ Aside0 (lambrequinref09_Same.l0 kq l0 l1 x5_1 = some r) ∧ Aside0 (kq ≤ k) ∧ Drawn0 w w')
  case atStart => exact ⟨(0), (by first | rfl | (simp; done) | (simp [*]; done)), H', ⟨Nat.le_refl _⟩, by repeat (first | exact Drawn0.refl _ | apply Drawn0.step)⟩
  case round =>
   clear H'
   try clear c1
   try clear p2
   try clear c3
   try clear c3b0
   try clear c3b1
   try clear c3b2
   obtain ⟨x5_1, rfl, HA, HK1, ⟨m1, rfl⟩⟩ := hrel
   cases gk with
   | zero => exact absurd HA.out (by simp [lambrequinref09_Same.l0])
   | succ k1 =>
    have H := HA.out
    clear HA
    simp only [lambrequinref09_Same.l0] at H
    by_cases c4 : x5_1 < (l0.length : Int)
    ·rw [if_pos c4] at H
     have c4b0 : decide (x5_1 < (l0.length : Int)) = true := decide_eq_true c4
     clear c4
     by_cases c5 : 0 ≤ x5_1
     ·rw [if_pos c5] at H
      have c5b0 : decide (0 ≤ x5_1) = true := decide_eq_true c5
      clear c5
      by_cases c6 : x5_1 < (l1.length : Int)
      ·rw [if_pos c6] at H
       have c6b0 : decide (x5_1 < (l1.length : Int)) = true := decide_eq_true c6
       clear c6
       by_cases c7 : (rdOf ByteArray.empty l0 x5_1).toList = (rdOf ByteArray.empty l1 x5_1).toList
       ·rw [if_pos c7] at H
        have c7b0 : ((rdOf ByteArray.empty l0 x5_1).toList == (rdOf ByteArray.empty l1 x5_1).toList) = true := beq_iff_eq.mpr c7
        have c7b1 : ((rdOf ByteArray.empty l0 x5_1).toList != (rdOf ByteArray.empty l1 x5_1).toList) = false := bne_eq_false_iff_eq.mpr c7
        clear c7
        have H' := Aside0.mk H
        clear H
        have p101 : 0 ≤ (x5_1 : Int) := of_decide_eq_true (by first | (with_reducible assumption) | assumption)
        have q101 : x5_1 < (l0.length : Int) := of_decide_eq_true (by first | (with_reducible assumption) | assumption)
        obtain ⟨ad101, e101, hx101_0⟩ := Kd.at_string HR0.out x5_1 p101 q101
        cases e101
        replace p101 := eq_true p101
        replace q101 := eq_true q101
        have p102 : 0 ≤ (x5_1 : Int) := of_decide_eq_true (by first | (with_reducible assumption) | assumption)
        have q102 : x5_1 < (l1.length : Int) := of_decide_eq_true (by first | (with_reducible assumption) | assumption)
        obtain ⟨ad102, e102, hx102_0⟩ := Kd.at_string HR1.out x5_1 p102 q102
        cases e102
        replace p102 := eq_true p102
        replace q102 := eq_true q102
        go_wp2
        repeat (go_quiet (fail); try go_wp2)
        go_roundg k1
        case measure => have := HK1.out; omega
        case rel => exact ⟨(wrap64 (x5_1 + 1)), (by first | rfl | (simp; done) | (simp [*]; done)), H', ⟨by have := HK1.out; omega⟩, by repeat (first | exact Drawn0.refl _ | apply Drawn0.step)⟩
       ·rw [if_neg c7] at H
        have c7b0 : ((rdOf ByteArray.empty l0 x5_1).toList == (rdOf ByteArray.empty l1 x5_1).toList) = false := beq_eq_false_iff_ne.mpr c7
        have c7b1 : ((rdOf ByteArray.empty l0 x5_1).toList != (rdOf ByteArray.empty l1 x5_1).toList) = true := bne_iff_ne.mpr c7
        obtain rfl := Option.some.inj H
        have p101 : 0 ≤ (x5_1 : Int) := of_decide_eq_true (by first | (with_reducible assumption) | assumption)
        have q101 : x5_1 < (l0.length : Int) := of_decide_eq_true (by first | (with_reducible assumption) | assumption)
        obtain ⟨ad101, e101, hx101_0⟩ := Kd.at_string HR0.out x5_1 p101 q101
        cases e101
        replace p101 := eq_true p101
        replace q101 := eq_true q101
        have p102 : 0 ≤ (x5_1 : Int) := of_decide_eq_true (by first | (with_reducible assumption) | assumption)
        have q102 : x5_1 < (l1.length : Int) := of_decide_eq_true (by first | (with_reducible assumption) | assumption)
        obtain ⟨ad102, e102, hx102_0⟩ := Kd.at_string HR1.out x5_1 p102 q102
        cases e102
        replace p102 := eq_true p102
        replace q102 := eq_true q102
        go_wp2
        repeat (go_quiet (fail); try go_wp2)
        go_ret
        exact ⟨by first | rfl | (simp; done) | (simp [*]; done), by repeat (first | exact Drawn0.refl _ | apply Drawn0.step)⟩
      ·rw [if_neg c6] at H
       exact absurd H (by simp)
     ·rw [if_neg c5] at H
      exact absurd H (by simp)
    ·rw [if_neg c4] at H
     have c4b0 : decide (x5_1 < (l0.length : Int)) = false := decide_eq_false c4
     clear c4
     obtain rfl := Option.some.inj H
     go_wp2
     repeat (go_quiet (fail); try go_wp2)
     go_ret
     exact ⟨by first | rfl | (simp; done) | (simp [*]; done), by repeat (first | exact Drawn0.refl _ | apply Drawn0.step)⟩
 ·rw [if_neg c3] at H
  have c3b0 : ((l0.length : Int) == (l1.length : Int)) = false := beq_eq_false_iff_ne.mpr c3
  have c3b1 : ((l0.length : Int) != (l1.length : Int)) = true := bne_iff_ne.mpr c3
  have c3b2 : (l0.length == l1.length) = false := by first | simpa using c3 | (simp at c3 ⊢; omega)
  obtain rfl := Option.some.inj H
  go_enter Try.func31, Try.ntmps31
  go_wp2
  repeat (go_quiet (fail); try go_wp2)
  go_ret
  exact ⟨by first | rfl | (simp; done) | (simp [*]; done), by repeat (first | exact Drawn0.refl _ | apply Drawn0.step)⟩
end Go.Proofs.Ytmlhnjonmjmhdaa.H
namespace Go.Proofs.Ytmlhnjonmjmhdaa.H
open Go.RowKit Go.Proofs.YtmlhnjonmjmhdaaW.PrintWords
def varOf (s : ByteArray) : Term := ⟨true, s, ⟨false, ⟨#[]⟩, 0⟩⟩
def noTerm : Term := ⟨false, ⟨#[]⟩, ⟨false, ⟨#[]⟩, 0⟩⟩
theorem blk_new' {w : World} {n : Nat} (h : w.heap.size = n) (o : Obj) : (w.alloc o).heap[n]? = some o := by subst h; exact blk_new w o
end Go.Proofs.Ytmlhnjonmjmhdaa.H

/- RowStrataLevelsUpto of the seat's law StrataLevelsUpto: the law holds, under the statement's own conditions. -/
import Derived.Test.YtmlhnjonmjmhdaaNXStrataLevelsUpto
import Derived.Test.YtmlhnjonmjmhdaaNXStrataLevelsUpto4
import Derived.Test.YtmlhnjonmjmhdaaNXStrataLevelsUpto3
import Derived.Test.YtmlhnjonmjmhdaaRows
import Derived.Test.YtmlhnjonmjmhdaaNW
import Derived.WalkKit
import Derived.ProofKit
import Derived.OpenShut
import Derived.ShutString
import Derived.ChangeOld
import Derived.Below
import Derived.SizedLaws
import Derived.Carry
import Derived.JoinedCond
import Derived.JoinedAt
set_option linter.unusedVariables false
set_option linter.unusedSimpArgs false
set_option linter.unusedSectionVars false
namespace Go.Proofs.Ytmlhnjonmjmhdaa.H
open Go.RowKit Go.Proofs.YtmlhnjonmjmhdaaW.PrintWords Go.Proofs.YtmlhnjonmjmhdaaW.PrintLast Go.Proofs.YtmlhnjonmjmhdaaW.PrintMore
attribute [local go_sem] max2_int min2_int max_two min_two max_three min_three max_four min_four
mutual
def lambrequinlaw11_StrataLevels.l0 : Nat → Bool → List Int → List ByteArray → Int → List (Decl) → List (Rule) → Option (Bool)
 | 0, _, _, _, _, _, _ => none
 | k + 1, x3, x4, x7, x8, x102000, x102001 => if x8 < (x102001.length : Int) then (if 0 ≤ x8 then ((lambrequinref11_At.f k x7 ((rd_T64 x102001 x8).head.pred)).bind fun t116 => (lambrequinlaw11_StrataLevels.l1 k x3 x4 x7 x8 t116 0 x102000 x102001 ((rd_T64 x102001 x8).head.pred) ((rd_T64 x102001 x8).head.args) ((rd_T64 x102001 x8).body))) else (none)) else (some x3)
def lambrequinlaw11_StrataLevels.l1 : Nat → Bool → List Int → List ByteArray → Int → Int → Int → List (Decl) → List (Rule) → ByteArray → List (Term) → List (Liter) → Option (Bool)
 | 0, _, _, _, _, _, _, _, _, _, _, _ => none
 | k + 1, x3, x4, x7, x8, x10, x11, x102000, x102001, x116000, x116001, x116002 => if x11 < (x116002.length : Int) then (if 0 ≤ x11 then ((lambrequinref11_At.f k x7 ((rd_T71 x116002 x11).atom.pred)).bind fun t118 => (if ((rd_T71 x116002 x11).kind) = 1 then (lambrequinlaw11_StrataLevels.j2 k x3 x4 x7 x8 x10 x11 t118 ((rd_T71 x116002 x11).kind) false x102000 x102001 x116000 x116001 x116002) else (lambrequinlaw11_StrataLevels.j2 k x3 x4 x7 x8 x10 x11 t118 ((rd_T71 x116002 x11).kind) (((rd_T71 x116002 x11).kind) != 2) x102000 x102001 x116000 x116001 x116002))) else (none)) else (lambrequinlaw11_StrataLevels.l0 k x3 x4 x7 (wrap64 (x8 + 1)) x102000 x102001)
def lambrequinlaw11_StrataLevels.j2 : Nat → Bool → List Int → List ByteArray → Int → Int → Int → Int → Int → Bool → List (Decl) → List (Rule) → ByteArray → List (Term) → List (Liter) → Option (Bool)
 | 0, _, _, _, _, _, _, _, _, _, _, _, _, _, _ => none
 | k + 1, x3, x4, x7, x8, x10, x11, x12, x13, x84, x102000, x102001, x116000, x116001, x116002 => if x84 = true then (lambrequinlaw11_StrataLevels.l1 k x3 x4 x7 x8 x10 (wrap64 (x11 + 1)) x102000 x102001 x116000 x116001 x116002) else (if x10 < 0 then (some false) else (if x12 < 0 then (some false) else (if 0 ≤ x10 then (if x10 < (x4.length : Int) then (if 0 ≤ x12 then (if x12 < (x4.length : Int) then (if (rd x4 x10) < (rd x4 x12) then (some false) else (if x13 = 2 then (if (rd x4 x10) = (rd x4 x12) then (some false) else (lambrequinlaw11_StrataLevels.l1 k x3 x4 x7 x8 x10 (wrap64 (x11 + 1)) x102000 x102001 x116000 x116001 x116002)) else (lambrequinlaw11_StrataLevels.l1 k x3 x4 x7 x8 x10 (wrap64 (x11 + 1)) x102000 x102001 x116000 x116001 x116002))) else (none)) else (none)) else (none)) else (none))))
end
def lambrequinlaw11_StrataLevels.f (k : Nat) (l0_0 : List (Decl)) (l0_1 : List (Rule)) : Option (Bool) := (lambrequinlaw11_shown.f k).bind fun t102 => ((lambrequinlaw11_few.f k l0_0 l0_1).bind fun t103 => (if t103 = true then ((strata_Of.f k l0_0 l0_1).bind fun bt104 => (if bt104.2.2 = 0 then ((strata_Preds.f k l0_0 l0_1).bind fun t111 => (if (bt104.1.length : Int) = (t111.length : Int) then (lambrequinlaw11_StrataLevels.l0 k t102 bt104.1 t111 0 l0_0 l0_1) else (some false))) else (if t102 = true then (some ((bt104.1.length : Int) == 0)) else (some false)))) else (some t102)))
theorem lambrequinlaw11_StrataLevels.mono_l : ∀ k, (∀ y0 y1 y2 y3 y4 y5, LeO (lambrequinlaw11_StrataLevels.l0 k y0 y1 y2 y3 y4 y5) (lambrequinlaw11_StrataLevels.l0 (k + 1) y0 y1 y2 y3 y4 y5)) ∧ (∀ y0 y1 y2 y3 y4 y5 y6 y7 y8 y9 y10, LeO (lambrequinlaw11_StrataLevels.l1 k y0 y1 y2 y3 y4 y5 y6 y7 y8 y9 y10) (lambrequinlaw11_StrataLevels.l1 (k + 1) y0 y1 y2 y3 y4 y5 y6 y7 y8 y9 y10)) ∧ (∀ y0 y1 y2 y3 y4 y5 y6 y7 y8 y9 y10 y11 y12 y13, LeO (lambrequinlaw11_StrataLevels.j2 k y0 y1 y2 y3 y4 y5 y6 y7 y8 y9 y10 y11 y12 y13) (lambrequinlaw11_StrataLevels.j2 (k + 1) y0 y1 y2 y3 y4 y5 y6 y7 y8 y9 y10 y11 y12 y13))
 | 0 => ⟨fun _ _ _ _ _ _ r h => by simp [lambrequinlaw11_StrataLevels.l0] at h, fun _ _ _ _ _ _ _ _ _ _ _ r h => by simp [lambrequinlaw11_StrataLevels.l1] at h, fun _ _ _ _ _ _ _ _ _ _ _ _ _ _ r h => by simp [lambrequinlaw11_StrataLevels.j2] at h⟩
 | k + 1 => by
  obtain ⟨ih0, ih1, ih2⟩ := lambrequinlaw11_StrataLevels.mono_l k
  refine ⟨?_, ?_, ?_⟩
  ·intro y0 y1 y2 y3 y4 y5
   unfold lambrequinlaw11_StrataLevels.l0
   repeat' first
   | (with_reducible exact ih0 _ _ _ _ _ _)
   | (with_reducible exact ih1 _ _ _ _ _ _ _ _ _ _ _)
   | (with_reducible exact ih2 _ _ _ _ _ _ _ _ _ _ _ _ _ _)
   | (with_reducible exact lambrequinlaw11_few.mono _ _ _)
   | (with_reducible exact lambrequinlaw11_shown.mono _)
   | (with_reducible exact lambrequinref11_At.mono _ _ _)
   | (with_reducible exact strata_Of.mono _ _ _)
   | (with_reducible exact strata_Preds.mono _ _ _)
   | (with_reducible exact LeO.refl _)
   | (with_reducible exact LeO.none _)
   | (with_reducible refine LeO.ite ?_ ?_)
   | (with_reducible refine LeO.bind ?_ (fun _ => ?_))
   | exact ih0 _ _ _ _ _ _
   | exact ih1 _ _ _ _ _ _ _ _ _ _ _
   | exact ih2 _ _ _ _ _ _ _ _ _ _ _ _ _ _
   | exact lambrequinlaw11_few.mono _ _ _
   | exact lambrequinlaw11_shown.mono _
   | exact lambrequinref11_At.mono _ _ _
   | exact strata_Of.mono _ _ _
   | exact strata_Preds.mono _ _ _
   | exact LeO.none _
   | refine LeO.ite ?_ ?_
   | refine LeO.bind ?_ (fun _ => ?_)
  ·intro y0 y1 y2 y3 y4 y5 y6 y7 y8 y9 y10
   unfold lambrequinlaw11_StrataLevels.l1
   repeat' first
   | (with_reducible exact ih0 _ _ _ _ _ _)
   | (with_reducible exact ih1 _ _ _ _ _ _ _ _ _ _ _)
   | (with_reducible exact ih2 _ _ _ _ _ _ _ _ _ _ _ _ _ _)
   | (with_reducible exact lambrequinlaw11_few.mono _ _ _)
   | (with_reducible exact lambrequinlaw11_shown.mono _)
   | (with_reducible exact lambrequinref11_At.mono _ _ _)
   | (with_reducible exact strata_Of.mono _ _ _)
   | (with_reducible exact strata_Preds.mono _ _ _)
   | (with_reducible exact LeO.refl _)
   | (with_reducible exact LeO.none _)
   | (with_reducible refine LeO.ite ?_ ?_)
   | (with_reducible refine LeO.bind ?_ (fun _ => ?_))
   | exact ih0 _ _ _ _ _ _
   | exact ih1 _ _ _ _ _ _ _ _ _ _ _
   | exact ih2 _ _ _ _ _ _ _ _ _ _ _ _ _ _
   | exact lambrequinlaw11_few.mono _ _ _
   | exact lambrequinlaw11_shown.mono _
   | exact lambrequinref11_At.mono _ _ _
   | exact strata_Of.mono _ _ _
   | exact strata_Preds.mono _ _ _
   | exact LeO.none _
   | refine LeO.ite ?_ ?_
   | refine LeO.bind ?_ (fun _ => ?_)
  ·intro y0 y1 y2 y3 y4 y5 y6 y7 y8 y9 y10 y11 y12 y13
   unfold lambrequinlaw11_StrataLevels.j2
   repeat' first
   | (with_reducible exact ih0 _ _ _ _ _ _)
   | (with_reducible exact ih1 _ _ _ _ _ _ _ _ _ _ _)
   | (with_reducible exact ih2 _ _ _ _ _ _ _ _ _ _ _ _ _ _)
   | (with_reducible exact lambrequinlaw11_few.mono _ _ _)
   | (with_reducible exact lambrequinlaw11_shown.mono _)
   | (with_reducible exact lambrequinref11_At.mono _ _ _)
   | (with_reducible exact strata_Of.mono _ _ _)
   | (with_reducible exact strata_Preds.mono _ _ _)
   | (with_reducible exact LeO.refl _)
   | (with_reducible exact LeO.none _)
   | (with_reducible refine LeO.ite ?_ ?_)
   | (with_reducible refine LeO.bind ?_ (fun _ => ?_))
   | exact ih0 _ _ _ _ _ _
   | exact ih1 _ _ _ _ _ _ _ _ _ _ _
   | exact ih2 _ _ _ _ _ _ _ _ _ _ _ _ _ _
   | exact lambrequinlaw11_few.mono _ _ _
   | exact lambrequinlaw11_shown.mono _
   | exact lambrequinref11_At.mono _ _ _
   | exact strata_Of.mono _ _ _
   | exact strata_Preds.mono _ _ _
   | exact LeO.none _
   | refine LeO.ite ?_ ?_
   | refine LeO.bind ?_ (fun _ => ?_)
theorem lambrequinlaw11_StrataLevels.mono : ∀ a0 a1 k, LeO (lambrequinlaw11_StrataLevels.f k a0 a1) (lambrequinlaw11_StrataLevels.f (k + 1) a0 a1) := by
 intro a0 a1 k
 obtain ⟨ih0, ih1, ih2⟩ := lambrequinlaw11_StrataLevels.mono_l k
 unfold lambrequinlaw11_StrataLevels.f
 repeat' first
   | (with_reducible exact ih0 _ _ _ _ _ _)
   | (with_reducible exact ih1 _ _ _ _ _ _ _ _ _ _ _)
   | (with_reducible exact ih2 _ _ _ _ _ _ _ _ _ _ _ _ _ _)
   | (with_reducible exact lambrequinlaw11_few.mono _ _ _)
   | (with_reducible exact lambrequinlaw11_shown.mono _)
   | (with_reducible exact lambrequinref11_At.mono _ _ _)
   | (with_reducible exact strata_Of.mono _ _ _)
   | (with_reducible exact strata_Preds.mono _ _ _)
   | (with_reducible exact LeO.refl _)
   | (with_reducible exact LeO.none _)
   | (with_reducible refine LeO.ite ?_ ?_)
   | (with_reducible refine LeO.bind ?_ (fun _ => ?_))
   | exact ih0 _ _ _ _ _ _
   | exact ih1 _ _ _ _ _ _ _ _ _ _ _
   | exact ih2 _ _ _ _ _ _ _ _ _ _ _ _ _ _
   | exact lambrequinlaw11_few.mono _ _ _
   | exact lambrequinlaw11_shown.mono _
   | exact lambrequinref11_At.mono _ _ _
   | exact strata_Of.mono _ _ _
   | exact strata_Preds.mono _ _ _
   | exact LeO.none _
   | refine LeO.ite ?_ ?_
   | refine LeO.bind ?_ (fun _ => ?_)
set_option maxHeartbeats 8000000 in
set_option maxRecDepth 100000 in
theorem lambrequinlaw11_StrataLevels.calls (k : Nat) (A0_0 : Option Addr) (c0_0 : Nat) (l0_0 : List (Decl)) (A0_1 : Option Addr) (c0_1 : Nat) (l0_1 : List (Rule)) (r : Bool) (w : World) (hr0_0 : Kd.C k96 w A0_0 l0_0.length l0_0) (hc0_0 : l0_0.length ≤ c0_0) (hr0_1 : Kd.C k64 w A0_1 l0_1.length l0_1) (hc0_1 : l0_1.length ≤ c0_1) (h : lambrequinlaw11_StrataLevels.f k l0_0 l0_1 = some r) :
  Calls Try.prog 10 #[.agg #[.slice A0_0 l0_0.length c0_0, .slice A0_1 l0_1.length c0_1]] w fun e w' => e = .returned (.bool r) ∧ Below w.heap.size w w' := by
 have hu50 := Try.underlying50
 have hu64 := Try.underlying64
 have HR0_0 := am hr0_0
 have HC0_0 := am hc0_0
 clear hr0_0 hc0_0
 have HR0_1 := am hr0_1
 have HC0_1 := am hc0_1
 clear hr0_1 hc0_1
 have HB := am (Below.refl w.heap.size w)
 have H : ((lambrequinlaw11_shown.f k).bind fun t102 => ((lambrequinlaw11_few.f k l0_0 l0_1).bind fun t103 => (if t103 = true then ((strata_Of.f k l0_0 l0_1).bind fun bt104 => (if bt104.2.2 = 0 then ((strata_Preds.f k l0_0 l0_1).bind fun t111 => (if (bt104.1.length : Int) = (t111.length : Int) then (lambrequinlaw11_StrataLevels.l0 k t102 bt104.1 t111 0 l0_0 l0_1) else (some false))) else (if t102 = true then (some ((bt104.1.length : Int) == 0)) else (some false)))) else (some t102)))) = some r := h
 clear h
 replace H := Option.bind_eq_some_iff.mp H
 obtain ⟨t102, A20, H⟩ := H
 replace H : ((lambrequinlaw11_few.f k l0_0 l0_1).bind fun t103 => (if t103 = true then ((strata_Of.f k l0_0 l0_1).bind fun bt104 => (if bt104.2.2 = 0 then ((strata_Preds.f k l0_0 l0_1).bind fun t111 => (if (bt104.1.length : Int) = (t111.length : Int) then (lambrequinlaw11_StrataLevels.l0 k t102 bt104.1 t111 0 l0_0 l0_1) else (some false))) else (if t102 = true then (some ((bt104.1.length : Int) == 0)) else (some false)))) else (some t102))) = some r := H
 have A2 := am A20
 clear A20
 replace H := Option.bind_eq_some_iff.mp H
 obtain ⟨t103, A30, H⟩ := H
 replace H : (if t103 = true then ((strata_Of.f k l0_0 l0_1).bind fun bt104 => (if bt104.2.2 = 0 then ((strata_Preds.f k l0_0 l0_1).bind fun t111 => (if (bt104.1.length : Int) = (t111.length : Int) then (lambrequinlaw11_StrataLevels.l0 k t102 bt104.1 t111 0 l0_0 l0_1) else (some false))) else (if t102 = true then (some ((bt104.1.length : Int) == 0)) else (some false)))) else (some t102)) = some r := H
 have A3 := am A30
 clear A30
 by_cases c4 : t103 = true
 ·subst c4
  have H1 : ((strata_Of.f k l0_0 l0_1).bind fun bt104 => (if bt104.2.2 = 0 then ((strata_Preds.f k l0_0 l0_1).bind fun t111 => (if (bt104.1.length : Int) = (t111.length : Int) then (lambrequinlaw11_StrataLevels.l0 k t102 bt104.1 t111 0 l0_0 l0_1) else (some false))) else (if t102 = true then (some ((bt104.1.length : Int) == 0)) else (some false)))) = some r := by rw [if_pos rfl] at H; exact H
  clear H
  have H := H1
  clear H1
  replace H := Option.bind_eq_some_iff.mp H
  obtain ⟨⟨t104, t107, t110⟩, A50, H⟩ := H
  replace H : (if t110 = 0 then ((strata_Preds.f k l0_0 l0_1).bind fun t111 => (if (t104.length : Int) = (t111.length : Int) then (lambrequinlaw11_StrataLevels.l0 k t102 t104 t111 0 l0_0 l0_1) else (some false))) else (if t102 = true then (some ((t104.length : Int) == 0)) else (some false))) = some r := H
  have A5 := am A50
  clear A50
  by_cases c6 : t110 = 0
  ·rw [if_pos c6] at H
   have c6b0 : (t110 == 0) = true := beq_iff_eq.mpr c6
   have c6b1 : (t110 != 0) = false := bne_eq_false_iff_eq.mpr c6
   clear c6
   replace H := Option.bind_eq_some_iff.mp H
   obtain ⟨t111, A70, H⟩ := H
   replace H : (if (t104.length : Int) = (t111.length : Int) then (lambrequinlaw11_StrataLevels.l0 k t102 t104 t111 0 l0_0 l0_1) else (some false)) = some r := H
   have A7 := am A70
   clear A70
   by_cases c8 : (t104.length : Int) = (t111.length : Int)
   ·rw [if_pos c8] at H
    have c8b0 : ((t104.length : Int) == (t111.length : Int)) = true := beq_iff_eq.mpr c8
    have c8b1 : ((t104.length : Int) != (t111.length : Int)) = false := bne_eq_false_iff_eq.mpr c8
    have c8b2 : (t104.length == t111.length) = true := by first | simpa using c8 | (simp at c8 ⊢; omega)
    clear c8
    have H' := am H
    clear H
    go_enter Try.func10, Try.ntmps10
    go_wp2_with (first | ((with_reducible refine gate_dst (N := 1) rfl ?_); (try (refine gate_guard (by rfl) ?_; dsimp only)); refine box_event ?hg (N := 1) ?hd (cs := #[.slice A0_0 l0_0.length c0_0, .slice A0_1 l0_1.length c0_1]) (t := 50) ?hr ?_; (case hd => rfl); (case hg => rfl); (case hr => first | (go_simp; done) | (go_simp; rfl)); intro gb101 hg w9 hbox hb; have BK101 := am (hbox); have GW101 := am ((by rw [hg]; exact (below_size (by repeat (first | (with_reducible first | exact HB.out | apply lA | apply lN | apply lD) | exact HB.out))) : w.heap.size ≤ gb101)); have GE101 := am ((by rw [hg]; exact (below_size (by repeat (first | (with_reducible first | exact HB.out | apply lA | apply lN | apply lD) | exact HB.out))) : w.heap.size ≤ gb101)); replace HB := am (below_step (by repeat (first | (with_reducible first | exact HB.out | apply lA | apply lN | apply lD) | exact HB.out)) hb); clear hb hbox hg) | (go_at_call 27; (with_reducible refine (lambrequinlaw11_shown.calls k  t102 _ A2.out).mono ?_); rintro e w10 ⟨rfl, hb⟩; replace BK101 := am (blk_below (g := gb101) (o := .cells #[.slice A0_0 l0_0.length c0_0, .slice A0_1 l0_1.length c0_1] 50 (0, 0)) (by (with_reducible repeat (first | refine bN ?_ _ | refine bD ?_ | refine bA ?_ _)); exact BK101.out) hb); replace HB := am (below_step (by repeat (first | (with_reducible first | exact HB.out | apply lA | apply lN | apply lD | refine lS ?_ GE101.out) | exact HB.out)) hb); (try clear hb); (try clear hb2); (try clear hk); (try clear hi); have hcz11_0 : w10.cell? ⟨gb101, 0, none⟩ = some (.slice A0_0 l0_0.length c0_0) := (blk_cell BK101.out 0).trans rfl; have hcz11_1 : w10.cell? ⟨gb101, 1, none⟩ = some (.slice A0_1 l0_1.length c0_1) := (blk_cell BK101.out 1).trans rfl; have hfz11_0 := blk_frozen BK101.out 0; have hfz11_1 := blk_frozen BK101.out 1) | (go_at_call 28; (with_reducible refine (lambrequinlaw11_few.calls k _ _ l0_0 _ _ l0_1 true _ ?side1 ?side2 ?side3 ?side4 A3.out).mono ?_); (case side1 => repeat (first | exact (Kd.C_below HR0_0.out HB.out) | (with_reducible refine Kd.C_alloc ?_ _) | (with_reducible refine Kd.C_drewN ?_ _) | (with_reducible refine Kd.C_drew ?_))); (case side2 => exact HC0_0.out); (case side3 => repeat (first | exact (Kd.C_below HR0_1.out HB.out) | (with_reducible refine Kd.C_alloc ?_ _) | (with_reducible refine Kd.C_drewN ?_ _) | (with_reducible refine Kd.C_drew ?_))); (case side4 => exact HC0_1.out); rintro e w12 ⟨rfl, hb⟩; replace BK101 := am (blk_below (g := gb101) (o := .cells #[.slice A0_0 l0_0.length c0_0, .slice A0_1 l0_1.length c0_1] 50 (0, 0)) (by (with_reducible repeat (first | refine bN ?_ _ | refine bD ?_ | refine bA ?_ _)); exact BK101.out) hb); replace HB := am (below_step (by repeat (first | (with_reducible first | exact HB.out | apply lA | apply lN | apply lD | refine lS ?_ GE101.out) | exact HB.out)) hb); (try clear hb); (try clear hb2); (try clear hk); (try clear hi); have hcz13_0 : w12.cell? ⟨gb101, 0, none⟩ = some (.slice A0_0 l0_0.length c0_0) := (blk_cell BK101.out 0).trans rfl; have hcz13_1 : w12.cell? ⟨gb101, 1, none⟩ = some (.slice A0_1 l0_1.length c0_1) := (blk_cell BK101.out 1).trans rfl; have hfz13_0 := blk_frozen BK101.out 0; have hfz13_1 := blk_frozen BK101.out 1) | (go_at_call 29; (with_reducible refine (strata_Of.calls k _ _ l0_0 _ _ l0_1 t104 t107 t110 _ ?side1 ?side2 ?side3 ?side4 A5.out).mono ?_); (case side1 => repeat (first | exact (Kd.C_below HR0_0.out HB.out) | (with_reducible refine Kd.C_alloc ?_ _) | (with_reducible refine Kd.C_drewN ?_ _) | (with_reducible refine Kd.C_drew ?_))); (case side2 => exact HC0_0.out); (case side3 => repeat (first | exact (Kd.C_below HR0_1.out HB.out) | (with_reducible refine Kd.C_alloc ?_ _) | (with_reducible refine Kd.C_drewN ?_ _) | (with_reducible refine Kd.C_drew ?_))); (case side4 => exact HC0_1.out); rintro e w14 ⟨v105, v108, rfl, ho0, ho1, hb⟩; have HO106 := am (Kd.R_lower ho0 (below_size (by repeat (first | (with_reducible first | exact HB.out | apply lA | apply lN | apply lD | refine lS ?_ GE101.out) | exact HB.out)))); have HO109 := am (Kd.R_lower ho1 (below_size (by repeat (first | (with_reducible first | exact HB.out | apply lA | apply lN | apply lD | refine lS ?_ GE101.out) | exact HB.out)))); replace BK101 := am (blk_below (g := gb101) (o := .cells #[.slice A0_0 l0_0.length c0_0, .slice A0_1 l0_1.length c0_1] 50 (0, 0)) (by (with_reducible repeat (first | refine bN ?_ _ | refine bD ?_ | refine bA ?_ _)); exact BK101.out) hb); replace HB := am (below_step (by repeat (first | (with_reducible first | exact HB.out | apply lA | apply lN | apply lD | refine lS ?_ GE101.out) | exact HB.out)) hb); (try clear hb); (try clear hb2); (try clear hk); (try clear hi); (try clear ho0); (try clear ho1); have hcz15_0 : w14.cell? ⟨gb101, 0, none⟩ = some (.slice A0_0 l0_0.length c0_0) := (blk_cell BK101.out 0).trans rfl; have hcz15_1 : w14.cell? ⟨gb101, 1, none⟩ = some (.slice A0_1 l0_1.length c0_1) := (blk_cell BK101.out 1).trans rfl; have hfz15_0 := blk_frozen BK101.out 0; have hfz15_1 := blk_frozen BK101.out 1) | (go_at_call 32; (with_reducible refine (strata_Preds.calls k _ _ l0_0 _ _ l0_1 t111 _ ?side1 ?side2 ?side3 ?side4 A7.out).mono ?_); (case side1 => repeat (first | exact (Kd.C_below HR0_0.out HB.out) | (with_reducible refine Kd.C_alloc ?_ _) | (with_reducible refine Kd.C_drewN ?_ _) | (with_reducible refine Kd.C_drew ?_))); (case side2 => exact HC0_0.out); (case side3 => repeat (first | exact (Kd.C_below HR0_1.out HB.out) | (with_reducible refine Kd.C_alloc ?_ _) | (with_reducible refine Kd.C_drewN ?_ _) | (with_reducible refine Kd.C_drew ?_))); (case side4 => exact HC0_1.out); rintro e w16 ⟨v112, rfl, ho0, hb⟩; replace HO106 := am (Kd.R_below (by (with_reducible repeat (first | apply Ra | apply Rn | apply Rd)); exact HO106.out) hb); have HO113 := am (Kd.R_lower (Kd.R_new' ho0 (Kd.R_lt (by (with_reducible repeat (first | apply Ra | apply Rn | apply Rd)); exact HO109.out))) (below_size (by repeat (first | (with_reducible first | exact HB.out | apply lA | apply lN | apply lD | refine lS ?_ GE101.out) | exact HB.out)))); replace HO109 := am (Kd.R_elder' (by (with_reducible repeat (first | apply Ra | apply Rn | apply Rd)); exact HO109.out) (Kd.R_base ho0) hb); replace BK101 := am (blk_below (g := gb101) (o := .cells #[.slice A0_0 l0_0.length c0_0, .slice A0_1 l0_1.length c0_1] 50 (0, 0)) (by (with_reducible repeat (first | refine bN ?_ _ | refine bD ?_ | refine bA ?_ _)); exact BK101.out) hb); replace HB := am (below_step (by repeat (first | (with_reducible first | exact HB.out | apply lA | apply lN | apply lD | refine lS ?_ GE101.out) | exact HB.out)) hb); (try clear hb); (try clear hb2); (try clear hk); (try clear hi); (try clear ho0); obtain ⟨Ao17, co17, eo17⟩ := Kd.R_slice HO106.out; subst eo17; obtain ⟨Ao18, co18, eo18⟩ := Kd.R_slice HO113.out; subst eo18))
    repeat (go_quiet (first | ((with_reducible refine gate_dst (N := 1) rfl ?_); (try (refine gate_guard (by rfl) ?_; dsimp only)); refine box_event ?hg (N := 1) ?hd (cs := #[.slice A0_0 l0_0.length c0_0, .slice A0_1 l0_1.length c0_1]) (t := 50) ?hr ?_; (case hd => rfl); (case hg => rfl); (case hr => first | (go_simp; done) | (go_simp; rfl)); intro gb101 hg w9 hbox hb; have BK101 := am (hbox); have GW101 := am ((by rw [hg]; exact (below_size (by repeat (first | (with_reducible first | exact HB.out | apply lA | apply lN | apply lD) | exact HB.out))) : w.heap.size ≤ gb101)); have GE101 := am ((by rw [hg]; exact (below_size (by repeat (first | (with_reducible first | exact HB.out | apply lA | apply lN | apply lD) | exact HB.out))) : w.heap.size ≤ gb101)); replace HB := am (below_step (by repeat (first | (with_reducible first | exact HB.out | apply lA | apply lN | apply lD) | exact HB.out)) hb); clear hb hbox hg) | (go_at_call 27; (with_reducible refine (lambrequinlaw11_shown.calls k  t102 _ A2.out).mono ?_); rintro e w10 ⟨rfl, hb⟩; replace BK101 := am (blk_below (g := gb101) (o := .cells #[.slice A0_0 l0_0.length c0_0, .slice A0_1 l0_1.length c0_1] 50 (0, 0)) (by (with_reducible repeat (first | refine bN ?_ _ | refine bD ?_ | refine bA ?_ _)); exact BK101.out) hb); replace HB := am (below_step (by repeat (first | (with_reducible first | exact HB.out | apply lA | apply lN | apply lD | refine lS ?_ GE101.out) | exact HB.out)) hb); (try clear hb); (try clear hb2); (try clear hk); (try clear hi); have hcz11_0 : w10.cell? ⟨gb101, 0, none⟩ = some (.slice A0_0 l0_0.length c0_0) := (blk_cell BK101.out 0).trans rfl; have hcz11_1 : w10.cell? ⟨gb101, 1, none⟩ = some (.slice A0_1 l0_1.length c0_1) := (blk_cell BK101.out 1).trans rfl; have hfz11_0 := blk_frozen BK101.out 0; have hfz11_1 := blk_frozen BK101.out 1) | (go_at_call 28; (with_reducible refine (lambrequinlaw11_few.calls k _ _ l0_0 _ _ l0_1 true _ ?side1 ?side2 ?side3 ?side4 A3.out).mono ?_); (case side1 => repeat (first | exact (Kd.C_below HR0_0.out HB.out) | (with_reducible refine Kd.C_alloc ?_ _) | (with_reducible refine Kd.C_drewN ?_ _) | (with_reducible refine Kd.C_drew ?_))); (case side2 => exact HC0_0.out); (case side3 => repeat (first | exact (Kd.C_below HR0_1.out HB.out) | (with_reducible refine Kd.C_alloc ?_ _) | (with_reducible refine Kd.C_drewN ?_ _) | (with_reducible refine Kd.C_drew ?_))); (case side4 => exact HC0_1.out); rintro e w12 ⟨rfl, hb⟩; replace BK101 := am (blk_below (g := gb101) (o := .cells #[.slice A0_0 l0_0.length c0_0, .slice A0_1 l0_1.length c0_1] 50 (0, 0)) (by (with_reducible repeat (first | refine bN ?_ _ | refine bD ?_ | refine bA ?_ _)); exact BK101.out) hb); replace HB := am (below_step (by repeat (first | (with_reducible first | exact HB.out | apply lA | apply lN | apply lD | refine lS ?_ GE101.out) | exact HB.out)) hb); (try clear hb); (try clear hb2); (try clear hk); (try clear hi); have hcz13_0 : w12.cell? ⟨gb101, 0, none⟩ = some (.slice A0_0 l0_0.length c0_0) := (blk_cell BK101.out 0).trans rfl; have hcz13_1 : w12.cell? ⟨gb101, 1, none⟩ = some (.slice A0_1 l0_1.length c0_1) := (blk_cell BK101.out 1).trans rfl; have hfz13_0 := blk_frozen BK101.out 0; have hfz13_1 := blk_frozen BK101.out 1) | (go_at_call 29; (with_reducible refine (strata_Of.calls k _ _ l0_0 _ _ l0_1 t104 t107 t110 _ ?side1 ?side2 ?side3 ?side4 A5.out).mono ?_); (case side1 => repeat (first | exact (Kd.C_below HR0_0.out HB.out) | (with_reducible refine Kd.C_alloc ?_ _) | (with_reducible refine Kd.C_drewN ?_ _) | (with_reducible refine Kd.C_drew ?_))); (case side2 => exact HC0_0.out); (case side3 => repeat (first | exact (Kd.C_below HR0_1.out HB.out) | (with_reducible refine Kd.C_alloc ?_ _) | (with_reducible refine Kd.C_drewN ?_ _) | (with_reducible refine Kd.C_drew ?_))); (case side4 => exact HC0_1.out); rintro e w14 ⟨v105, v108, rfl, ho0, ho1, hb⟩; have HO106 := am (Kd.R_lower ho0 (below_size (by repeat (first | (with_reducible first | exact HB.out | apply lA | apply lN | apply lD | refine lS ?_ GE101.out) | exact HB.out)))); have HO109 := am (Kd.R_lower ho1 (below_size (by repeat (first | (with_reducible first | exact HB.out | apply lA | apply lN | apply lD | refine lS ?_ GE101.out) | exact HB.out)))); replace BK101 := am (blk_below (g := gb101) (o := .cells #[.slice A0_0 l0_0.length c0_0, .slice A0_1 l0_1.length c0_1] 50 (0, 0)) (by (with_reducible repeat (first | refine bN ?_ _ | refine bD ?_ | refine bA ?_ _)); exact BK101.out) hb); replace HB := am (below_step (by repeat (first | (with_reducible first | exact HB.out | apply lA | apply lN | apply lD | refine lS ?_ GE101.out) | exact HB.out)) hb); (try clear hb); (try clear hb2); (try clear hk); (try clear hi); (try clear ho0); (try clear ho1); have hcz15_0 : w14.cell? ⟨gb101, 0, none⟩ = some (.slice A0_0 l0_0.length c0_0) := (blk_cell BK101.out 0).trans rfl; have hcz15_1 : w14.cell? ⟨gb101, 1, none⟩ = some (.slice A0_1 l0_1.length c0_1) := (blk_cell BK101.out 1).trans rfl; have hfz15_0 := blk_frozen BK101.out 0; have hfz15_1 := blk_frozen BK101.out 1) | (go_at_call 32; (with_reducible refine (strata_Preds.calls k _ _ l0_0 _ _ l0_1 t111 _ ?side1 ?side2 ?side3 ?side4 A7.out).mono ?_); (case side1 => repeat (first | exact (Kd.C_below HR0_0.out HB.out) | (with_reducible refine Kd.C_alloc ?_ _) | (with_reducible refine Kd.C_drewN ?_ _) | (with_reducible refine Kd.C_drew ?_))); (case side2 => exact HC0_0.out); (case side3 => repeat (first | exact (Kd.C_below HR0_1.out HB.out) | (with_reducible refine Kd.C_alloc ?_ _) | (with_reducible refine Kd.C_drewN ?_ _) | (with_reducible refine Kd.C_drew ?_))); (case side4 => exact HC0_1.out); rintro e w16 ⟨v112, rfl, ho0, hb⟩; replace HO106 := am (Kd.R_below (by (with_reducible repeat (first | apply Ra | apply Rn | apply Rd)); exact HO106.out) hb); have HO113 := am (Kd.R_lower (Kd.R_new' ho0 (Kd.R_lt (by (with_reducible repeat (first | apply Ra | apply Rn | apply Rd)); exact HO109.out))) (below_size (by repeat (first | (with_reducible first | exact HB.out | apply lA | apply lN | apply lD | refine lS ?_ GE101.out) | exact HB.out)))); replace HO109 := am (Kd.R_elder' (by (with_reducible repeat (first | apply Ra | apply Rn | apply Rd)); exact HO109.out) (Kd.R_base ho0) hb); replace BK101 := am (blk_below (g := gb101) (o := .cells #[.slice A0_0 l0_0.length c0_0, .slice A0_1 l0_1.length c0_1] 50 (0, 0)) (by (with_reducible repeat (first | refine bN ?_ _ | refine bD ?_ | refine bA ?_ _)); exact BK101.out) hb); replace HB := am (below_step (by repeat (first | (with_reducible first | exact HB.out | apply lA | apply lN | apply lD | refine lS ?_ GE101.out) | exact HB.out)) hb); (try clear hb); (try clear hb2); (try clear hk); (try clear hi); (try clear ho0); obtain ⟨Ao17, co17, eo17⟩ := Kd.R_slice HO106.out; subst eo17; obtain ⟨Ao18, co18, eo18⟩ := Kd.R_slice HO113.out; subst eo18)); try go_wp2_with (first | ((with_reducible refine gate_dst (N := 1) rfl ?_); (try (refine gate_guard (by rfl) ?_; dsimp only)); refine box_event ?hg (N := 1) ?hd (cs := #[.slice A0_0 l0_0.length c0_0, .slice A0_1 l0_1.length c0_1]) (t := 50) ?hr ?_; (case hd => rfl); (case hg => rfl); (case hr => first | (go_simp; done) | (go_simp; rfl)); intro gb101 hg w9 hbox hb; have BK101 := am (hbox); have GW101 := am ((by rw [hg]; exact (below_size (by repeat (first | (with_reducible first | exact HB.out | apply lA | apply lN | apply lD) | exact HB.out))) : w.heap.size ≤ gb101)); have GE101 := am ((by rw [hg]; exact (below_size (by repeat (first | (with_reducible first | exact HB.out | apply lA | apply lN | apply lD) | exact HB.out))) : w.heap.size ≤ gb101)); replace HB := am (below_step (by repeat (first | (with_reducible first | exact HB.out | apply lA | apply lN | apply lD) | exact HB.out)) hb); clear hb hbox hg) | (go_at_call 27; (with_reducible refine (lambrequinlaw11_shown.calls k  t102 _ A2.out).mono ?_); rintro e w10 ⟨rfl, hb⟩; replace BK101 := am (blk_below (g := gb101) (o := .cells #[.slice A0_0 l0_0.length c0_0, .slice A0_1 l0_1.length c0_1] 50 (0, 0)) (by (with_reducible repeat (first | refine bN ?_ _ | refine bD ?_ | refine bA ?_ _)); exact BK101.out) hb); replace HB := am (below_step (by repeat (first | (with_reducible first | exact HB.out | apply lA | apply lN | apply lD | refine lS ?_ GE101.out) | exact HB.out)) hb); (try clear hb); (try clear hb2); (try clear hk); (try clear hi); have hcz11_0 : w10.cell? ⟨gb101, 0, none⟩ = some (.slice A0_0 l0_0.length c0_0) := (blk_cell BK101.out 0).trans rfl; have hcz11_1 : w10.cell? ⟨gb101, 1, none⟩ = some (.slice A0_1 l0_1.length c0_1) := (blk_cell BK101.out 1).trans rfl; have hfz11_0 := blk_frozen BK101.out 0; have hfz11_1 := blk_frozen BK101.out 1) | (go_at_call 28; (with_reducible refine (lambrequinlaw11_few.calls k _ _ l0_0 _ _ l0_1 true _ ?side1 ?side2 ?side3 ?side4 A3.out).mono ?_); (case side1 => repeat (first | exact (Kd.C_below HR0_0.out HB.out) | (with_reducible refine Kd.C_alloc ?_ _) | (with_reducible refine Kd.C_drewN ?_ _) | (with_reducible refine Kd.C_drew ?_))); (case side2 => exact HC0_0.out); (case side3 => repeat (first | exact (Kd.C_below HR0_1.out HB.out) | (with_reducible refine Kd.C_alloc ?_ _) | (with_reducible refine Kd.C_drewN ?_ _) | (with_reducible refine Kd.C_drew ?_))); (case side4 => exact HC0_1.out); rintro e w12 ⟨rfl, hb⟩; replace BK101 := am (blk_below (g := gb101) (o := .cells #[.slice A0_0 l0_0.length c0_0, .slice A0_1 l0_1.length c0_1] 50 (0, 0)) (by (with_reducible repeat (first | refine bN ?_ _ | refine bD ?_ | refine bA ?_ _)); exact BK101.out) hb); replace HB := am (below_step (by repeat (first | (with_reducible first | exact HB.out | apply lA | apply lN | apply lD | refine lS ?_ GE101.out) | exact HB.out)) hb); (try clear hb); (try clear hb2); (try clear hk); (try clear hi); have hcz13_0 : w12.cell? ⟨gb101, 0, none⟩ = some (.slice A0_0 l0_0.length c0_0) := (blk_cell BK101.out 0).trans rfl; have hcz13_1 : w12.cell? ⟨gb101, 1, none⟩ = some (.slice A0_1 l0_1.length c0_1) := (blk_cell BK101.out 1).trans rfl; have hfz13_0 := blk_frozen BK101.out 0; have hfz13_1 := blk_frozen BK101.out 1) | (go_at_call 29; (with_reducible refine (strata_Of.calls k _ _ l0_0 _ _ l0_1 t104 t107 t110 _ ?side1 ?side2 ?side3 ?side4 A5.out).mono ?_); (case side1 => repeat (first | exact (Kd.C_below HR0_0.out HB.out) | (with_reducible refine Kd.C_alloc ?_ _) | (with_reducible refine Kd.C_drewN ?_ _) | (with_reducible refine Kd.C_drew ?_))); (case side2 => exact HC0_0.out); (case side3 => repeat (first | exact (Kd.C_below HR0_1.out HB.out) | (with_reducible refine Kd.C_alloc ?_ _) | (with_reducible refine Kd.C_drewN ?_ _) | (with_reducible refine Kd.C_drew ?_))); (case side4 => exact HC0_1.out); rintro e w14 ⟨v105, v108, rfl, ho0, ho1, hb⟩; have HO106 := am (Kd.R_lower ho0 (below_size (by repeat (first | (with_reducible first | exact HB.out | apply lA | apply lN | apply lD | refine lS ?_ GE101.out) | exact HB.out)))); have HO109 := am (Kd.R_lower ho1 (below_size (by repeat (first | (with_reducible first | exact HB.out | apply lA | apply lN | apply lD | refine lS ?_ GE101.out) | exact HB.out)))); replace BK101 := am (blk_below (g := gb101) (o := .cells #[.slice A0_0 l0_0.length c0_0, .slice A0_1 l0_1.length c0_1] 50 (0, 0)) (by (with_reducible repeat (first | refine bN ?_ _ | refine bD ?_ | refine bA ?_ _)); exact BK101.out) hb); replace HB := am (below_step (by repeat (first | (with_reducible first | exact HB.out | apply lA | apply lN | apply lD | refine lS ?_ GE101.out) | exact HB.out)) hb); (try clear hb); (try clear hb2); (try clear hk); (try clear hi); (try clear ho0); (try clear ho1); have hcz15_0 : w14.cell? ⟨gb101, 0, none⟩ = some (.slice A0_0 l0_0.length c0_0) := (blk_cell BK101.out 0).trans rfl; have hcz15_1 : w14.cell? ⟨gb101, 1, none⟩ = some (.slice A0_1 l0_1.length c0_1) := (blk_cell BK101.out 1).trans rfl; have hfz15_0 := blk_frozen BK101.out 0; have hfz15_1 := blk_frozen BK101.out 1) | (go_at_call 32; (with_reducible refine (strata_Preds.calls k _ _ l0_0 _ _ l0_1 t111 _ ?side1 ?side2 ?side3 ?side4 A7.out).mono ?_); (case side1 => repeat (first | exact (Kd.C_below HR0_0.out HB.out) | (with_reducible refine Kd.C_alloc ?_ _) | (with_reducible refine Kd.C_drewN ?_ _) | (with_reducible refine Kd.C_drew ?_))); (case side2 => exact HC0_0.out); (case side3 => repeat (first | exact (Kd.C_below HR0_1.out HB.out) | (with_reducible refine Kd.C_alloc ?_ _) | (with_reducible refine Kd.C_drewN ?_ _) | (with_reducible refine Kd.C_drew ?_))); (case side4 => exact HC0_1.out); rintro e w16 ⟨v112, rfl, ho0, hb⟩; replace HO106 := am (Kd.R_below (by (with_reducible repeat (first | apply Ra | apply Rn | apply Rd)); exact HO106.out) hb); have HO113 := am (Kd.R_lower (Kd.R_new' ho0 (Kd.R_lt (by (with_reducible repeat (first | apply Ra | apply Rn | apply Rd)); exact HO109.out))) (below_size (by repeat (first | (with_reducible first | exact HB.out | apply lA | apply lN | apply lD | refine lS ?_ GE101.out) | exact HB.out)))); replace HO109 := am (Kd.R_elder' (by (with_reducible repeat (first | apply Ra | apply Rn | apply Rd)); exact HO109.out) (Kd.R_base ho0) hb); replace BK101 := am (blk_below (g := gb101) (o := .cells #[.slice A0_0 l0_0.length c0_0, .slice A0_1 l0_1.length c0_1] 50 (0, 0)) (by (with_reducible repeat (first | refine bN ?_ _ | refine bD ?_ | refine bA ?_ _)); exact BK101.out) hb); replace HB := am (below_step (by repeat (first | (with_reducible first | exact HB.out | apply lA | apply lN | apply lD | refine lS ?_ GE101.out) | exact HB.out)) hb); (try clear hb); (try clear hb2); (try clear hk); (try clear hi); (try clear ho0); obtain ⟨Ao17, co17, eo17⟩ := Kd.R_slice HO106.out; subst eo17; obtain ⟨Ao18, co18, eo18⟩ := Kd.R_slice HO113.out; subst eo18)))
    go_loopg [8] k (fun kq v8 w' => ∃ (x8_1 : Int), v8 = .int .i64 x8_1 ∧ Aside0 (lambrequinlaw11_StrataLevels.l0 kq t102 t104 t111 x8_1 l0_0 l0_1 = some r) ∧ Aside0 (kq ≤ k) ∧ Aside0 (Kd.R (Kd.int .i64) 3 w' w.heap.size (fun _ => True) (.slice Ao17 t104.length co17) t104) ∧ Aside0 (Kd.R Kd.string 9 w' w.heap.size (fun _ => True) (.slice Ao18 t111.length co18) t111) ∧ Aside0 (w'.heap[gb101]? = some (.cells #[(.slice A0_0 l0_0.length c0_0), (.slice A0_1 l0_1.length c0_1)] 50 (0, 0))) ∧ Aside0 (Below w.heap.size w w'))
    case atStart => exact ⟨(0), (by first | rfl | (simp; done) | (simp [*]; done)), H', ⟨Nat.le_refl _⟩, ⟨by (with_reducible repeat (first | apply Ra | apply Rn | apply Rd)); exact HO106.out⟩, ⟨by (with_reducible repeat (first | apply Ra | apply Rn | apply Rd)); exact Kd.R_mono HO113.out (fun _ hk => trivial)⟩, ⟨by (with_reducible repeat (first | refine bN ?_ _ | refine bD ?_ | refine bA ?_ _)); exact BK101.out⟩, ⟨by repeat (first | (with_reducible first | exact HB.out | apply lA | apply lN | apply lD | refine lS ?_ GE101.out) | exact HB.out)⟩⟩
    case round =>
     clear H'
     try clear c1
     try clear p2
     try clear c4
     try clear c6
     try clear c6b0
     try clear c6b1
     try clear c8
     try clear c8b0
     try clear c8b1
     try clear c8b2
     try clear c10
     try clear hcz11_0
     try clear hcz11_1
     try clear hcz13_0
     try clear hcz13_1
     try clear hcz15_0
     try clear hcz15_1
     try clear hfz11_0
     try clear hfz11_1
     try clear hfz13_0
     try clear hfz13_1
     try clear hfz15_0
     try clear hfz15_1
     obtain ⟨x8_1, rfl, HA, HK1, HO_4, HO_7, BK101, HB⟩ := hrel
     cases gk with
     | zero => exact absurd HA.out (by simp [lambrequinlaw11_StrataLevels.l0])
     | succ k1 =>
      have H := HA.out
      clear HA
      simp only [lambrequinlaw11_StrataLevels.l0] at H
      by_cases c19 : x8_1 < (l0_1.length : Int)
      ·rw [if_pos c19] at H
       have c19b0 : decide (x8_1 < (l0_1.length : Int)) = true := decide_eq_true c19
       clear c19
       by_cases c20 : 0 ≤ x8_1
       ·rw [if_pos c20] at H
        have c20b0 : decide (0 ≤ x8_1) = true := decide_eq_true c20
        clear c20
        replace H := Option.bind_eq_some_iff.mp H
        obtain ⟨t116, A210, H⟩ := H
        replace H : (lambrequinlaw11_StrataLevels.l1 k1 t102 t104 t111 x8_1 t116 0 l0_0 l0_1 ((rd_T64 l0_1 x8_1).head.pred) ((rd_T64 l0_1 x8_1).head.args) ((rd_T64 l0_1 x8_1).body)) = some r := H
        have A21 := am A210
        clear A210
        have H' := am H
        clear H
        have hcz22_0 : wr.cell? ⟨gb101, 0, none⟩ = some (.slice A0_0 l0_0.length c0_0) := (blk_cell BK101.out 0).trans rfl
        have hcz22_1 : wr.cell? ⟨gb101, 1, none⟩ = some (.slice A0_1 l0_1.length c0_1) := (blk_cell BK101.out 1).trans rfl
        have hfz22_0 := blk_frozen BK101.out 0
        have hfz22_1 := blk_frozen BK101.out 1
        have p114 : 0 ≤ (x8_1 : Int) := of_decide_eq_true (by first | (with_reducible assumption) | assumption)
        have q114 : x8_1 < (l0_1.length : Int) := of_decide_eq_true (by first | (with_reducible assumption) | assumption)
        obtain ⟨ad114, A114_1, c114_1, A114_2, c114_2, e114, hx114_0, hx114_1, hx114_2, hl114_1, hi114_1, hl114_2, hi114_2⟩ := at_T64 HR0_1.out x8_1 p114 q114
        cases e114
        replace hx114_0 := (HB.out.cell (blt_ hx114_0)).trans hx114_0
        replace hx114_1 := (HB.out.cell (blt_ hx114_1)).trans hx114_1
        replace hx114_2 := (HB.out.cell (blt_ hx114_2)).trans hx114_2
        have HR114_1 := am hi114_1
        have HC114_1 := am hl114_1
        clear hi114_1 hl114_1
        have HR114_2 := am hi114_2
        have HC114_2 := am hl114_2
        clear hi114_2 hl114_2
        replace p114 := eq_true p114
        replace q114 := eq_true q114
        go_wp2_with (first | ((with_reducible refine gate_dst (N := 9) rfl ?_); (try (refine gate_guard (by rfl) ?_; dsimp only)); refine box_event ?hg (N := 9) ?hd (cs := #[.string (⟨#[]⟩ : ByteArray), .slice none 0 0, .slice none 0 0]) (t := 64) ?hr ?_; (case hd => rfl); (case hg => rfl); (case hr => first | (go_simp; done) | (go_simp; rfl)); intro gb115 hg w23 hbox hb; replace HO_4 := am (Kd.R_below (by (with_reducible repeat (first | apply Ra | apply Rn | apply Rd)); exact HO_4.out) hb); replace HO_7 := am (Kd.R_below (by (with_reducible repeat (first | apply Ra | apply Rn | apply Rd)); exact HO_7.out) hb); have BK115 := am (hbox); have GW115 := am ((by rw [hg]; exact (below_size (by repeat (first | (with_reducible first | exact HB.out | apply lA | apply lN | apply lD | refine lS ?_ GE101.out) | exact HB.out))) : w.heap.size ≤ gb115)); have GE115 := am ((by rw [hg]; exact (below_size (by repeat (first | (with_reducible first | exact HB.out | apply lA | apply lN | apply lD | refine lS ?_ GE101.out) | exact HB.out))) : w.heap.size ≤ gb115)); replace HB := am (below_step (by repeat (first | (with_reducible first | exact HB.out | apply lA | apply lN | apply lD | refine lS ?_ GE101.out) | exact HB.out)) hb); have NB101_115 := am ((by rw [hg]; exact Nat.ne_of_lt (blk_lt (g := gb101) (o := .cells #[.slice A0_0 l0_0.length c0_0, .slice (some ad114) l0_1.length c0_1] 50 (0, 0)) (by (with_reducible repeat (first | refine bN ?_ _ | refine bD ?_ | refine bA ?_ _)); exact BK101.out)) : gb101 ≠ gb115)); have NB115_101 := am ((by rw [hg]; exact Nat.ne_of_gt (blk_lt (g := gb101) (o := .cells #[.slice A0_0 l0_0.length c0_0, .slice (some ad114) l0_1.length c0_1] 50 (0, 0)) (by (with_reducible repeat (first | refine bN ?_ _ | refine bD ?_ | refine bA ?_ _)); exact BK101.out)) : gb115 ≠ gb101)); replace BK101 := am (blk_below (g := gb101) (o := .cells #[.slice A0_0 l0_0.length c0_0, .slice (some ad114) l0_1.length c0_1] 50 (0, 0)) (by (with_reducible repeat (first | refine bN ?_ _ | refine bD ?_ | refine bA ?_ _)); exact BK101.out) hb); clear hb hbox hg; have hnb24 := NB115_101.out; have hnc24 := NB101_115.out; have hcz25_0 : w23.cell? ⟨gb115, 0, none⟩ = some (.string (⟨#[]⟩ : ByteArray)) := (blk_cell BK115.out 0).trans rfl; have hcz25_1 : w23.cell? ⟨gb115, 1, none⟩ = some (.slice none 0 0) := (blk_cell BK115.out 1).trans rfl; have hcz25_2 : w23.cell? ⟨gb115, 2, none⟩ = some (.slice none 0 0) := (blk_cell BK115.out 2).trans rfl; have hfz25_0 := blk_frozen BK115.out 0; have hfz25_1 := blk_frozen BK115.out 1; have hfz25_2 := blk_frozen BK115.out 2) | (go_at_call 34; (with_reducible refine (lambrequinref11_At.calls k1 _ _ t111 ((rd_T64 l0_1 x8_1).head.pred) t116 _ ?side1 ?side2 A21.out).mono ?_); (case side1 => refine (Kd.R_reads' (e := 9) (base := w.heap.size) (ok := fun k_ => True) (n := t111.length) (c := co18) ?_).2.2; exact (by (with_reducible repeat (first | apply Ra | apply Rn | apply Rd)); exact (Kd.R_mono (Kd.R_far (p := ⟨gb115, 2, none⟩) (Kd.R_far (p := ⟨gb115, 1, none⟩) (Kd.R_far (p := ⟨gb115, 0, none⟩) (Kd.R_types HO_7.out BK115.out (by decide)) (fun _ hk => hk.2) _) (fun _ hk => hk.2) _) (fun _ hk => hk.2) _) (fun _ h_ => h_.1)))); (case side2 => exact (Kd.R_reads' HO_7.out).2.1); rintro e w' ⟨rfl, ⟨nd, rfl⟩⟩; (try first | exact ⟨rfl, _, World.drewN_drewN _ _ _⟩ | exact ⟨rfl, _, Eq.trans (World.drewN_drewN _ _ _) (congrArg (World.drewN _) (Nat.add_assoc _ _ _))⟩)))
        repeat (go_quiet (first | ((with_reducible refine gate_dst (N := 9) rfl ?_); (try (refine gate_guard (by rfl) ?_; dsimp only)); refine box_event ?hg (N := 9) ?hd (cs := #[.string (⟨#[]⟩ : ByteArray), .slice none 0 0, .slice none 0 0]) (t := 64) ?hr ?_; (case hd => rfl); (case hg => rfl); (case hr => first | (go_simp; done) | (go_simp; rfl)); intro gb115 hg w23 hbox hb; replace HO_4 := am (Kd.R_below (by (with_reducible repeat (first | apply Ra | apply Rn | apply Rd)); exact HO_4.out) hb); replace HO_7 := am (Kd.R_below (by (with_reducible repeat (first | apply Ra | apply Rn | apply Rd)); exact HO_7.out) hb); have BK115 := am (hbox); have GW115 := am ((by rw [hg]; exact (below_size (by repeat (first | (with_reducible first | exact HB.out | apply lA | apply lN | apply lD | refine lS ?_ GE101.out) | exact HB.out))) : w.heap.size ≤ gb115)); have GE115 := am ((by rw [hg]; exact (below_size (by repeat (first | (with_reducible first | exact HB.out | apply lA | apply lN | apply lD | refine lS ?_ GE101.out) | exact HB.out))) : w.heap.size ≤ gb115)); replace HB := am (below_step (by repeat (first | (with_reducible first | exact HB.out | apply lA | apply lN | apply lD | refine lS ?_ GE101.out) | exact HB.out)) hb); have NB101_115 := am ((by rw [hg]; exact Nat.ne_of_lt (blk_lt (g := gb101) (o := .cells #[.slice A0_0 l0_0.length c0_0, .slice (some ad114) l0_1.length c0_1] 50 (0, 0)) (by (with_reducible repeat (first | refine bN ?_ _ | refine bD ?_ | refine bA ?_ _)); exact BK101.out)) : gb101 ≠ gb115)); have NB115_101 := am ((by rw [hg]; exact Nat.ne_of_gt (blk_lt (g := gb101) (o := .cells #[.slice A0_0 l0_0.length c0_0, .slice (some ad114) l0_1.length c0_1] 50 (0, 0)) (by (with_reducible repeat (first | refine bN ?_ _ | refine bD ?_ | refine bA ?_ _)); exact BK101.out)) : gb115 ≠ gb101)); replace BK101 := am (blk_below (g := gb101) (o := .cells #[.slice A0_0 l0_0.length c0_0, .slice (some ad114) l0_1.length c0_1] 50 (0, 0)) (by (with_reducible repeat (first | refine bN ?_ _ | refine bD ?_ | refine bA ?_ _)); exact BK101.out) hb); clear hb hbox hg; have hnb24 := NB115_101.out; have hnc24 := NB101_115.out; have hcz25_0 : w23.cell? ⟨gb115, 0, none⟩ = some (.string (⟨#[]⟩ : ByteArray)) := (blk_cell BK115.out 0).trans rfl; have hcz25_1 : w23.cell? ⟨gb115, 1, none⟩ = some (.slice none 0 0) := (blk_cell BK115.out 1).trans rfl; have hcz25_2 : w23.cell? ⟨gb115, 2, none⟩ = some (.slice none 0 0) := (blk_cell BK115.out 2).trans rfl; have hfz25_0 := blk_frozen BK115.out 0; have hfz25_1 := blk_frozen BK115.out 1; have hfz25_2 := blk_frozen BK115.out 2) | (go_at_call 34; (with_reducible refine (lambrequinref11_At.calls k1 _ _ t111 ((rd_T64 l0_1 x8_1).head.pred) t116 _ ?side1 ?side2 A21.out).mono ?_); (case side1 => refine (Kd.R_reads' (e := 9) (base := w.heap.size) (ok := fun k_ => True) (n := t111.length) (c := co18) ?_).2.2; exact (by (with_reducible repeat (first | apply Ra | apply Rn | apply Rd)); exact (Kd.R_mono (Kd.R_far (p := ⟨gb115, 2, none⟩) (Kd.R_far (p := ⟨gb115, 1, none⟩) (Kd.R_far (p := ⟨gb115, 0, none⟩) (Kd.R_types HO_7.out BK115.out (by decide)) (fun _ hk => hk.2) _) (fun _ hk => hk.2) _) (fun _ hk => hk.2) _) (fun _ h_ => h_.1)))); (case side2 => exact (Kd.R_reads' HO_7.out).2.1); rintro e w' ⟨rfl, ⟨nd, rfl⟩⟩; (try first | exact ⟨rfl, _, World.drewN_drewN _ _ _⟩ | exact ⟨rfl, _, Eq.trans (World.drewN_drewN _ _ _) (congrArg (World.drewN _) (Nat.add_assoc _ _ _))⟩))); try go_wp2_with (first | ((with_reducible refine gate_dst (N := 9) rfl ?_); (try (refine gate_guard (by rfl) ?_; dsimp only)); refine box_event ?hg (N := 9) ?hd (cs := #[.string (⟨#[]⟩ : ByteArray), .slice none 0 0, .slice none 0 0]) (t := 64) ?hr ?_; (case hd => rfl); (case hg => rfl); (case hr => first | (go_simp; done) | (go_simp; rfl)); intro gb115 hg w23 hbox hb; replace HO_4 := am (Kd.R_below (by (with_reducible repeat (first | apply Ra | apply Rn | apply Rd)); exact HO_4.out) hb); replace HO_7 := am (Kd.R_below (by (with_reducible repeat (first | apply Ra | apply Rn | apply Rd)); exact HO_7.out) hb); have BK115 := am (hbox); have GW115 := am ((by rw [hg]; exact (below_size (by repeat (first | (with_reducible first | exact HB.out | apply lA | apply lN | apply lD | refine lS ?_ GE101.out) | exact HB.out))) : w.heap.size ≤ gb115)); have GE115 := am ((by rw [hg]; exact (below_size (by repeat (first | (with_reducible first | exact HB.out | apply lA | apply lN | apply lD | refine lS ?_ GE101.out) | exact HB.out))) : w.heap.size ≤ gb115)); replace HB := am (below_step (by repeat (first | (with_reducible first | exact HB.out | apply lA | apply lN | apply lD | refine lS ?_ GE101.out) | exact HB.out)) hb); have NB101_115 := am ((by rw [hg]; exact Nat.ne_of_lt (blk_lt (g := gb101) (o := .cells #[.slice A0_0 l0_0.length c0_0, .slice (some ad114) l0_1.length c0_1] 50 (0, 0)) (by (with_reducible repeat (first | refine bN ?_ _ | refine bD ?_ | refine bA ?_ _)); exact BK101.out)) : gb101 ≠ gb115)); have NB115_101 := am ((by rw [hg]; exact Nat.ne_of_gt (blk_lt (g := gb101) (o := .cells #[.slice A0_0 l0_0.length c0_0, .slice (some ad114) l0_1.length c0_1] 50 (0, 0)) (by (with_reducible repeat (first | refine bN ?_ _ | refine bD ?_ | refine bA ?_ _)); exact BK101.out)) : gb115 ≠ gb101)); replace BK101 := am (blk_below (g := gb101) (o := .cells #[.slice A0_0 l0_0.length c0_0, .slice (some ad114) l0_1.length c0_1] 50 (0, 0)) (by (with_reducible repeat (first | refine bN ?_ _ | refine bD ?_ | refine bA ?_ _)); exact BK101.out) hb); clear hb hbox hg; have hnb24 := NB115_101.out; have hnc24 := NB101_115.out; have hcz25_0 : w23.cell? ⟨gb115, 0, none⟩ = some (.string (⟨#[]⟩ : ByteArray)) := (blk_cell BK115.out 0).trans rfl; have hcz25_1 : w23.cell? ⟨gb115, 1, none⟩ = some (.slice none 0 0) := (blk_cell BK115.out 1).trans rfl; have hcz25_2 : w23.cell? ⟨gb115, 2, none⟩ = some (.slice none 0 0) := (blk_cell BK115.out 2).trans rfl; have hfz25_0 := blk_frozen BK115.out 0; have hfz25_1 := blk_frozen BK115.out 1; have hfz25_2 := blk_frozen BK115.out 2) | (go_at_call 34; (with_reducible refine (lambrequinref11_At.calls k1 _ _ t111 ((rd_T64 l0_1 x8_1).head.pred) t116 _ ?side1 ?side2 A21.out).mono ?_); (case side1 => refine (Kd.R_reads' (e := 9) (base := w.heap.size) (ok := fun k_ => True) (n := t111.length) (c := co18) ?_).2.2; exact (by (with_reducible repeat (first | apply Ra | apply Rn | apply Rd)); exact (Kd.R_mono (Kd.R_far (p := ⟨gb115, 2, none⟩) (Kd.R_far (p := ⟨gb115, 1, none⟩) (Kd.R_far (p := ⟨gb115, 0, none⟩) (Kd.R_types HO_7.out BK115.out (by decide)) (fun _ hk => hk.2) _) (fun _ hk => hk.2) _) (fun _ hk => hk.2) _) (fun _ h_ => h_.1)))); (case side2 => exact (Kd.R_reads' HO_7.out).2.1); rintro e w' ⟨rfl, ⟨nd, rfl⟩⟩; (try first | exact ⟨rfl, _, World.drewN_drewN _ _ _⟩ | exact ⟨rfl, _, Eq.trans (World.drewN_drewN _ _ _) (congrArg (World.drewN _) (Nat.add_assoc _ _ _))⟩))))
        go_loopg [11] k1 (fun kq v11 w' => ∃ (x11_2 : Int), v11 = .int .i64 x11_2 ∧ Aside0 (lambrequinlaw11_StrataLevels.l1 kq t102 t104 t111 x8_1 t116 x11_2 l0_0 l0_1 ((rd_T64 l0_1 x8_1).head.pred) ((rd_T64 l0_1 x8_1).head.args) ((rd_T64 l0_1 x8_1).body) = some r) ∧ Aside0 (kq ≤ k1) ∧ Aside0 (Kd.R (Kd.int .i64) 3 w' w.heap.size (fun _ => True) (.slice Ao17 t104.length co17) t104) ∧ Aside0 (Kd.R Kd.string 9 w' w.heap.size (fun _ => True) (.slice Ao18 t111.length co18) t111) ∧ Aside0 (w'.heap[gb101]? = some (.cells #[(.slice A0_0 l0_0.length c0_0), (.slice (some ad114) l0_1.length c0_1)] 50 (0, 0))) ∧ Aside0 (w'.heap[gb115]? = some (.cells #[.string ((rd_T64 l0_1 x8_1).head.pred), (.slice A114_1 ((rd_T64 l0_1 x8_1).head.args).length c114_1), (.slice A114_2 ((rd_T64 l0_1 x8_1).body).length c114_2)] 64 (0, 0))) ∧ Aside0 (Below w.heap.size w w'))
        case atStart => exact ⟨(0), (by first | rfl | (simp; done) | (simp [*]; done)), H', ⟨Nat.le_refl _⟩, ⟨by (with_reducible repeat (first | apply Ra | apply Rn | apply Rd)); exact Kd.R_mono (Kd.R_far (p := ⟨gb115, 2, none⟩) (Kd.R_far (p := ⟨gb115, 1, none⟩) (Kd.R_far (p := ⟨gb115, 0, none⟩) (Kd.R_types HO_4.out BK115.out (by decide)) (fun _ hk => hk.2) _) (fun _ hk => hk.2) _) (fun _ hk => hk.2) _) (fun _ hk => trivial)⟩, ⟨by (with_reducible repeat (first | apply Ra | apply Rn | apply Rd)); exact Kd.R_mono (Kd.R_far (p := ⟨gb115, 2, none⟩) (Kd.R_far (p := ⟨gb115, 1, none⟩) (Kd.R_far (p := ⟨gb115, 0, none⟩) (Kd.R_types HO_7.out BK115.out (by decide)) (fun _ hk => hk.2) _) (fun _ hk => hk.2) _) (fun _ hk => hk.2) _) (fun _ hk => trivial)⟩, ⟨by repeat (first | (with_reducible first | exact BK101.out | refine bN ?_ _ | refine bD ?_ | refine bA ?_ _) | refine blk_far ?_ NB101_115.out _ | exact BK101.out)⟩, ⟨by (with_reducible repeat (first | refine bN ?_ _ | refine bD ?_ | refine bA ?_ _)); refine blk_put (cs := #[.string ((rd_T64 l0_1 x8_1).head.pred), .slice A114_1 ((rd_T64 l0_1 x8_1).head.args).length c114_1, .slice none 0 0]) ?_ 2 _ rfl; (with_reducible repeat (first | refine bN ?_ _ | refine bD ?_ | refine bA ?_ _)); refine blk_put (cs := #[.string ((rd_T64 l0_1 x8_1).head.pred), .slice none 0 0, .slice none 0 0]) ?_ 1 _ rfl; (with_reducible repeat (first | refine bN ?_ _ | refine bD ?_ | refine bA ?_ _)); refine blk_put (cs := #[.string (⟨#[]⟩ : ByteArray), .slice none 0 0, .slice none 0 0]) ?_ 0 _ rfl; (with_reducible repeat (first | refine bN ?_ _ | refine bD ?_ | refine bA ?_ _)); exact BK115.out⟩, ⟨by repeat (first | (with_reducible first | exact HB.out | apply lA | apply lN | apply lD | refine lS ?_ GE101.out | refine lS ?_ GE115.out) | exact HB.out)⟩⟩
        case round =>
         clear H'
         try clear c1
         try clear p1
         try clear q1
         try clear hx1
         try clear c2
         try clear p2
         try clear c4
         try clear c6
         try clear c6b0
         try clear c6b1
         try clear c8
         try clear c8b0
         try clear c8b1
         try clear c8b2
         try clear c10
         try clear c11
         try clear p11
         try clear q11
         try clear hx11
         try clear c19
         try clear c19b0
         try clear c20
         try clear c20b0
         try clear c24
         try clear hcz11_0
         try clear hcz11_1
         try clear hcz13_0
         try clear hcz13_1
         try clear hcz15_0
         try clear hcz15_1
         try clear hcz22_0
         try clear hcz22_1
         try clear hcz25_0
         try clear hcz25_1
         try clear hcz25_2
         try clear hfz11_0
         try clear hfz11_1
         try clear hfz13_0
         try clear hfz13_1
         try clear hfz15_0
         try clear hfz15_1
         try clear hfz22_0
         try clear hfz22_1
         try clear hfz25_0
         try clear hfz25_1
         try clear hfz25_2
         try clear hx114_0
         try clear hx114_1
         try clear hx114_2
         try clear p114
         try clear p2
         try clear q114
         obtain ⟨x11_2, rfl, HA, HK2, HO_4, HO_7, BK101, BK115, HB⟩ := hrel
         cases gk with
         | zero => exact absurd HA.out (by simp [lambrequinlaw11_StrataLevels.l1])
         | succ k2 =>
          have H := HA.out
          clear HA
          simp only [lambrequinlaw11_StrataLevels.l1] at H
          by_cases c26 : x11_2 < (((rd_T64 l0_1 x8_1).body).length : Int)
          ·rw [if_pos c26] at H
           have c26b0 : decide (x11_2 < (((rd_T64 l0_1 x8_1).body).length : Int)) = true := decide_eq_true c26
           clear c26
           by_cases c27 : 0 ≤ x11_2
           ·rw [if_pos c27] at H
            have c27b0 : decide (0 ≤ x11_2) = true := decide_eq_true c27
            clear c27
            replace H := Option.bind_eq_some_iff.mp H
            obtain ⟨t118, A280, H⟩ := H
            replace H : (if ((rd_T71 ((rd_T64 l0_1 x8_1).body) x11_2).kind) = 1 then (lambrequinlaw11_StrataLevels.j2 k2 t102 t104 t111 x8_1 t116 x11_2 t118 ((rd_T71 ((rd_T64 l0_1 x8_1).body) x11_2).kind) false l0_0 l0_1 ((rd_T64 l0_1 x8_1).head.pred) ((rd_T64 l0_1 x8_1).head.args) ((rd_T64 l0_1 x8_1).body)) else (lambrequinlaw11_StrataLevels.j2 k2 t102 t104 t111 x8_1 t116 x11_2 t118 ((rd_T71 ((rd_T64 l0_1 x8_1).body) x11_2).kind) (((rd_T71 ((rd_T64 l0_1 x8_1).body) x11_2).kind) != 2) l0_0 l0_1 ((rd_T64 l0_1 x8_1).head.pred) ((rd_T64 l0_1 x8_1).head.args) ((rd_T64 l0_1 x8_1).body))) = some r := H
            have A28 := am A280
            clear A280
            have HC29 := am H
            clear H
            have hnb30 := NB115_101.out
            have hnc30 := NB101_115.out
            have hcz31_0 : wr.cell? ⟨gb115, 0, none⟩ = some (.string ((rd_T64 l0_1 x8_1).head.pred)) := (blk_cell BK115.out 0).trans rfl
            have hcz31_1 : wr.cell? ⟨gb115, 1, none⟩ = some (.slice A114_1 ((rd_T64 l0_1 x8_1).head.args).length c114_1) := (blk_cell BK115.out 1).trans rfl
            have hcz31_2 : wr.cell? ⟨gb115, 2, none⟩ = some (.slice A114_2 ((rd_T64 l0_1 x8_1).body).length c114_2) := (blk_cell BK115.out 2).trans rfl
            have hfz31_0 := blk_frozen BK115.out 0
            have hfz31_1 := blk_frozen BK115.out 1
            have hfz31_2 := blk_frozen BK115.out 2
            have p117 : 0 ≤ (x11_2 : Int) := of_decide_eq_true (by first | (with_reducible assumption) | assumption)
            have q117 : x11_2 < (((rd_T64 l0_1 x8_1).body).length : Int) := of_decide_eq_true (by first | (with_reducible assumption) | assumption)
            obtain ⟨ad117, A117_2, c117_2, e117, hx117_0, hx117_1, hx117_2, hx117_3, hx117_4, hx117_5, hx117_6, hx117_7, hx117_8, hx117_9, hx117_10, hx117_11, hx117_12, hx117_13, hl117_2, hi117_2⟩ := at_T71 HR114_2.out x11_2 p117 q117
            cases e117
            replace hx117_0 := (HB.out.cell (blt_ hx117_0)).trans hx117_0
            replace hx117_1 := (HB.out.cell (blt_ hx117_1)).trans hx117_1
            replace hx117_2 := (HB.out.cell (blt_ hx117_2)).trans hx117_2
            replace hx117_3 := (HB.out.cell (blt_ hx117_3)).trans hx117_3
            replace hx117_4 := (HB.out.cell (blt_ hx117_4)).trans hx117_4
            replace hx117_5 := (HB.out.cell (blt_ hx117_5)).trans hx117_5
            replace hx117_6 := (HB.out.cell (blt_ hx117_6)).trans hx117_6
            replace hx117_7 := (HB.out.cell (blt_ hx117_7)).trans hx117_7
            replace hx117_8 := (HB.out.cell (blt_ hx117_8)).trans hx117_8
            replace hx117_9 := (HB.out.cell (blt_ hx117_9)).trans hx117_9
            replace hx117_10 := (HB.out.cell (blt_ hx117_10)).trans hx117_10
            replace hx117_11 := (HB.out.cell (blt_ hx117_11)).trans hx117_11
            replace hx117_12 := (HB.out.cell (blt_ hx117_12)).trans hx117_12
            replace hx117_13 := (HB.out.cell (blt_ hx117_13)).trans hx117_13
            have HR117_2 := am hi117_2
            have HC117_2 := am hl117_2
            clear hi117_2 hl117_2
            replace p117 := eq_true p117
            replace q117 := eq_true q117
            go_upto_region 20 with (first | (go_at_call 34; (with_reducible refine (lambrequinref11_At.calls k2 _ _ t111 ((rd_T71 ((rd_T64 l0_1 x8_1).body) x11_2).atom.pred) t118 _ ?side1 ?side2 A28.out).mono ?_); (case side1 => repeat (first | exact (Kd.R_reads' HO_7.out).2.2 | (with_reducible refine Kd.C_alloc ?_ _) | (with_reducible refine Kd.C_drewN ?_ _) | (with_reducible refine Kd.C_drew ?_))); (case side2 => exact (Kd.R_reads' HO_7.out).2.1); rintro e w' ⟨rfl, ⟨nd, rfl⟩⟩; (try first | exact ⟨rfl, _, World.drewN_drewN _ _ _⟩ | exact ⟨rfl, _, Eq.trans (World.drewN_drewN _ _ _) (congrArg (World.drewN _) (Nat.add_assoc _ _ _))⟩); have p119 : 0 ≤ (x11_2 : Int) := of_decide_eq_true (by first | (with_reducible assumption) | assumption); have q119 : x11_2 < (((rd_T64 l0_1 x8_1).body).length : Int) := of_decide_eq_true (by first | (with_reducible assumption) | assumption); obtain ⟨ad119, A119_2, c119_2, e119, hx119_0, hx119_1, hx119_2, hx119_3, hx119_4, hx119_5, hx119_6, hx119_7, hx119_8, hx119_9, hx119_10, hx119_11, hx119_12, hx119_13, hl119_2, hi119_2⟩ := at_T71 HR114_2.out x11_2 p119 q119; obtain rfl : ad117 = ad119 := (by injection e119); replace hx119_0 := (HB.out.cell (blt_ hx119_0)).trans hx119_0; replace hx119_1 := (HB.out.cell (blt_ hx119_1)).trans hx119_1; replace hx119_2 := (HB.out.cell (blt_ hx119_2)).trans hx119_2; replace hx119_3 := (HB.out.cell (blt_ hx119_3)).trans hx119_3; replace hx119_4 := (HB.out.cell (blt_ hx119_4)).trans hx119_4; replace hx119_5 := (HB.out.cell (blt_ hx119_5)).trans hx119_5; replace hx119_6 := (HB.out.cell (blt_ hx119_6)).trans hx119_6; replace hx119_7 := (HB.out.cell (blt_ hx119_7)).trans hx119_7; replace hx119_8 := (HB.out.cell (blt_ hx119_8)).trans hx119_8; replace hx119_9 := (HB.out.cell (blt_ hx119_9)).trans hx119_9; replace hx119_10 := (HB.out.cell (blt_ hx119_10)).trans hx119_10; replace hx119_11 := (HB.out.cell (blt_ hx119_11)).trans hx119_11; replace hx119_12 := (HB.out.cell (blt_ hx119_12)).trans hx119_12; replace hx119_13 := (HB.out.cell (blt_ hx119_13)).trans hx119_13; have HR119_2 := am hi119_2; have HC119_2 := am hl119_2; clear hi119_2 hl119_2; replace p119 := eq_true p119; replace q119 := eq_true q119; have ea_ := Option.some.inj (hx117_2.symm.trans hx119_2); injection ea_ with ea_ en_ ec_; subst ea_; subst ec_; clear en_))
            repeat (go_quiet (first | (go_at_call 34; (with_reducible refine (lambrequinref11_At.calls k2 _ _ t111 ((rd_T71 ((rd_T64 l0_1 x8_1).body) x11_2).atom.pred) t118 _ ?side1 ?side2 A28.out).mono ?_); (case side1 => repeat (first | exact (Kd.R_reads' HO_7.out).2.2 | (with_reducible refine Kd.C_alloc ?_ _) | (with_reducible refine Kd.C_drewN ?_ _) | (with_reducible refine Kd.C_drew ?_))); (case side2 => exact (Kd.R_reads' HO_7.out).2.1); rintro e w' ⟨rfl, ⟨nd, rfl⟩⟩; (try first | exact ⟨rfl, _, World.drewN_drewN _ _ _⟩ | exact ⟨rfl, _, Eq.trans (World.drewN_drewN _ _ _) (congrArg (World.drewN _) (Nat.add_assoc _ _ _))⟩); have p119 : 0 ≤ (x11_2 : Int) := of_decide_eq_true (by first | (with_reducible assumption) | assumption); have q119 : x11_2 < (((rd_T64 l0_1 x8_1).body).length : Int) := of_decide_eq_true (by first | (with_reducible assumption) | assumption); obtain ⟨ad119, A119_2, c119_2, e119, hx119_0, hx119_1, hx119_2, hx119_3, hx119_4, hx119_5, hx119_6, hx119_7, hx119_8, hx119_9, hx119_10, hx119_11, hx119_12, hx119_13, hl119_2, hi119_2⟩ := at_T71 HR114_2.out x11_2 p119 q119; obtain rfl : ad117 = ad119 := (by injection e119); replace hx119_0 := (HB.out.cell (blt_ hx119_0)).trans hx119_0; replace hx119_1 := (HB.out.cell (blt_ hx119_1)).trans hx119_1; replace hx119_2 := (HB.out.cell (blt_ hx119_2)).trans hx119_2; replace hx119_3 := (HB.out.cell (blt_ hx119_3)).trans hx119_3; replace hx119_4 := (HB.out.cell (blt_ hx119_4)).trans hx119_4; replace hx119_5 := (HB.out.cell (blt_ hx119_5)).trans hx119_5; replace hx119_6 := (HB.out.cell (blt_ hx119_6)).trans hx119_6; replace hx119_7 := (HB.out.cell (blt_ hx119_7)).trans hx119_7; replace hx119_8 := (HB.out.cell (blt_ hx119_8)).trans hx119_8; replace hx119_9 := (HB.out.cell (blt_ hx119_9)).trans hx119_9; replace hx119_10 := (HB.out.cell (blt_ hx119_10)).trans hx119_10; replace hx119_11 := (HB.out.cell (blt_ hx119_11)).trans hx119_11; replace hx119_12 := (HB.out.cell (blt_ hx119_12)).trans hx119_12; replace hx119_13 := (HB.out.cell (blt_ hx119_13)).trans hx119_13; have HR119_2 := am hi119_2; have HC119_2 := am hl119_2; clear hi119_2 hl119_2; replace p119 := eq_true p119; replace q119 := eq_true q119; have ea_ := Option.some.inj (hx117_2.symm.trans hx119_2); injection ea_ with ea_ en_ ec_; subst ea_; subst ec_; clear en_)); go_upto_region 20 with (first | (go_at_call 34; (with_reducible refine (lambrequinref11_At.calls k2 _ _ t111 ((rd_T71 ((rd_T64 l0_1 x8_1).body) x11_2).atom.pred) t118 _ ?side1 ?side2 A28.out).mono ?_); (case side1 => repeat (first | exact (Kd.R_reads' HO_7.out).2.2 | (with_reducible refine Kd.C_alloc ?_ _) | (with_reducible refine Kd.C_drewN ?_ _) | (with_reducible refine Kd.C_drew ?_))); (case side2 => exact (Kd.R_reads' HO_7.out).2.1); rintro e w' ⟨rfl, ⟨nd, rfl⟩⟩; (try first | exact ⟨rfl, _, World.drewN_drewN _ _ _⟩ | exact ⟨rfl, _, Eq.trans (World.drewN_drewN _ _ _) (congrArg (World.drewN _) (Nat.add_assoc _ _ _))⟩); have p119 : 0 ≤ (x11_2 : Int) := of_decide_eq_true (by first | (with_reducible assumption) | assumption); have q119 : x11_2 < (((rd_T64 l0_1 x8_1).body).length : Int) := of_decide_eq_true (by first | (with_reducible assumption) | assumption); obtain ⟨ad119, A119_2, c119_2, e119, hx119_0, hx119_1, hx119_2, hx119_3, hx119_4, hx119_5, hx119_6, hx119_7, hx119_8, hx119_9, hx119_10, hx119_11, hx119_12, hx119_13, hl119_2, hi119_2⟩ := at_T71 HR114_2.out x11_2 p119 q119; obtain rfl : ad117 = ad119 := (by injection e119); replace hx119_0 := (HB.out.cell (blt_ hx119_0)).trans hx119_0; replace hx119_1 := (HB.out.cell (blt_ hx119_1)).trans hx119_1; replace hx119_2 := (HB.out.cell (blt_ hx119_2)).trans hx119_2; replace hx119_3 := (HB.out.cell (blt_ hx119_3)).trans hx119_3; replace hx119_4 := (HB.out.cell (blt_ hx119_4)).trans hx119_4; replace hx119_5 := (HB.out.cell (blt_ hx119_5)).trans hx119_5; replace hx119_6 := (HB.out.cell (blt_ hx119_6)).trans hx119_6; replace hx119_7 := (HB.out.cell (blt_ hx119_7)).trans hx119_7; replace hx119_8 := (HB.out.cell (blt_ hx119_8)).trans hx119_8; replace hx119_9 := (HB.out.cell (blt_ hx119_9)).trans hx119_9; replace hx119_10 := (HB.out.cell (blt_ hx119_10)).trans hx119_10; replace hx119_11 := (HB.out.cell (blt_ hx119_11)).trans hx119_11; replace hx119_12 := (HB.out.cell (blt_ hx119_12)).trans hx119_12; replace hx119_13 := (HB.out.cell (blt_ hx119_13)).trans hx119_13; have HR119_2 := am hi119_2; have HC119_2 := am hl119_2; clear hi119_2 hl119_2; replace p119 := eq_true p119; replace q119 := eq_true q119; have ea_ := Option.some.inj (hx117_2.symm.trans hx119_2); injection ea_ with ea_ en_ ec_; subst ea_; subst ec_; clear en_)))
            (try simp only [Act.put, List.setIfInBounds_toArray, List.set_cons_zero, List.set_cons_succ])
            go_cut [84] (fun v84 wc => ∃ (kq : Nat) (x84_28 : Bool), v84 = .bool x84_28 ∧ Aside0 (lambrequinlaw11_StrataLevels.j2 kq t102 t104 t111 x8_1 t116 x11_2 t118 ((rd_T71 ((rd_T64 l0_1 x8_1).body) x11_2).kind) x84_28 l0_0 l0_1 ((rd_T64 l0_1 x8_1).head.pred) ((rd_T64 l0_1 x8_1).head.args) ((rd_T64 l0_1 x8_1).body) = some r) ∧ Aside0 (kq ≤ k2) ∧ Aside0 (Kd.R (Kd.int .i64) 3 wc w.heap.size (fun _ => True) (.slice Ao17 t104.length co17) t104) ∧ Aside0 (Kd.R Kd.string 9 wc w.heap.size (fun _ => True) (.slice Ao18 t111.length co18) t111) ∧ Aside0 (wc.heap[gb101]? = some (.cells #[(.slice A0_0 l0_0.length c0_0), (.slice (some ad114) l0_1.length c0_1)] 50 (0, 0))) ∧ Aside0 (wc.heap[gb115]? = some (.cells #[.string ((rd_T64 l0_1 x8_1).head.pred), (.slice A114_1 ((rd_T64 l0_1 x8_1).head.args).length c114_1), (.slice (some ad117) ((rd_T64 l0_1 x8_1).body).length c114_2)] 64 (0, 0))) ∧ Aside0 (Below w.heap.size w wc))
            case first =>
             have H := HC29.out
             clear HC29
             by_cases c32 : ((rd_T71 ((rd_T64 l0_1 x8_1).body) x11_2).kind) = 1
             ·rw [if_pos c32] at H
              have c32b0 : (((rd_T71 ((rd_T64 l0_1 x8_1).body) x11_2).kind) == 1) = true := beq_iff_eq.mpr c32
              have c32b1 : (((rd_T71 ((rd_T64 l0_1 x8_1).body) x11_2).kind) != 1) = false := bne_eq_false_iff_eq.mpr c32
              clear c32
              (first | rw [c32b0] | (simp only [i64_w, i32_w]; rw [c32b0]) | skip)
              have H' := am H
              clear H
              go_wp2
              repeat (go_quiet (fail); try go_wp2)
              go_meet
              case rel => exact ⟨_, (false), (by first | rfl | (simp; done) | (simp [*]; done)), H', ⟨by have := HK1.out; have := HK2.out; first | omega | exact Nat.le_refl _⟩, ⟨by (with_reducible repeat (first | apply Ra | apply Rn | apply Rd)); exact HO_4.out⟩, ⟨by (with_reducible repeat (first | apply Ra | apply Rn | apply Rd)); exact HO_7.out⟩, ⟨by (with_reducible repeat (first | refine bN ?_ _ | refine bD ?_ | refine bA ?_ _)); exact BK101.out⟩, ⟨by (with_reducible repeat (first | refine bN ?_ _ | refine bD ?_ | refine bA ?_ _)); exact BK115.out⟩, ⟨by repeat (first | (with_reducible first | exact HB.out | apply lA | apply lN | apply lD | refine lS ?_ GE101.out | refine lS ?_ GE115.out) | exact HB.out)⟩⟩
             ·rw [if_neg c32] at H
              have c32b0 : (((rd_T71 ((rd_T64 l0_1 x8_1).body) x11_2).kind) == 1) = false := beq_eq_false_iff_ne.mpr c32
              have c32b1 : (((rd_T71 ((rd_T64 l0_1 x8_1).body) x11_2).kind) != 1) = true := bne_iff_ne.mpr c32
              (first | rw [c32b0] | (simp only [i64_w, i32_w]; rw [c32b0]) | skip)
              have H' := am H
              clear H
              go_wp2
              repeat (go_quiet (fail); try go_wp2)
              go_meet
              case rel => exact ⟨_, ((((rd_T71 ((rd_T64 l0_1 x8_1).body) x11_2).kind) != 2)), (by first | rfl | (simp; done) | (simp [*]; done)), H', ⟨by have := HK1.out; have := HK2.out; first | omega | exact Nat.le_refl _⟩, ⟨by (with_reducible repeat (first | apply Ra | apply Rn | apply Rd)); exact HO_4.out⟩, ⟨by (with_reducible repeat (first | apply Ra | apply Rn | apply Rd)); exact HO_7.out⟩, ⟨by (with_reducible repeat (first | refine bN ?_ _ | refine bD ?_ | refine bA ?_ _)); exact BK101.out⟩, ⟨by (with_reducible repeat (first | refine bN ?_ _ | refine bD ?_ | refine bA ?_ _)); exact BK115.out⟩, ⟨by repeat (first | (with_reducible first | exact HB.out | apply lA | apply lN | apply lD | refine lS ?_ GE101.out | refine lS ?_ GE115.out) | exact HB.out)⟩⟩
            case rest =>
             clear HC29
             try clear c1
             try clear p1
             try clear q1
             try clear hx1
             try clear c2
             try clear p2
             try clear c3
             try clear c4
             try clear c6
             try clear c6b0
             try clear c6b1
             try clear c8
             try clear c8b0
             try clear c8b1
             try clear c8b2
             try clear c10
             try clear c11
             try clear p11
             try clear q11
             try clear hx11
             try clear c19
             try clear c19b0
             try clear c20
             try clear c20b0
             try clear c24
             try clear c26
             try clear c26b0
             try clear c27
             try clear c27b0
             try clear c30
             try clear c32
             try clear c32b0
             try clear c32b1
             try clear hcz11_0
             try clear hcz11_1
             try clear hcz13_0
             try clear hcz13_1
             try clear hcz15_0
             try clear hcz15_1
             try clear hcz22_0
             try clear hcz22_1
             try clear hcz25_0
             try clear hcz25_1
             try clear hcz25_2
             try clear hcz31_0
             try clear hcz31_1
             try clear hcz31_2
             try clear hfz11_0
             try clear hfz11_1
             try clear hfz13_0
             try clear hfz13_1
             try clear hfz15_0
             try clear hfz15_1
             try clear hfz22_0
             try clear hfz22_1
             try clear hfz25_0
             try clear hfz25_1
             try clear hfz25_2
             try clear hfz31_0
             try clear hfz31_1
             try clear hfz31_2
             try clear hx114_0
             try clear hx114_1
             try clear hx114_2
             try clear hx117_0
             try clear hx117_1
             try clear hx117_10
             try clear hx117_11
             try clear hx117_12
             try clear hx117_13
             try clear hx117_2
             try clear hx117_3
             try clear hx117_4
             try clear hx117_5
             try clear hx117_6
             try clear hx117_7
             try clear hx117_8
             try clear hx117_9
             try clear hx119_0
             try clear hx119_1
             try clear hx119_10
             try clear hx119_11
             try clear hx119_12
             try clear hx119_13
             try clear hx119_2
             try clear hx119_3
             try clear hx119_4
             try clear hx119_5
             try clear hx119_6
             try clear hx119_7
             try clear hx119_8
             try clear hx119_9
             try clear p1
             try clear p11
             try clear p114
             try clear p117
             try clear p119
             try clear p2
             try clear q1
             try clear q11
             try clear q114
             try clear q117
             try clear q119
             obtain ⟨kq, x84_28, rfl, HA, HJ28, HO_4, HO_7, BK101, BK115, HB⟩ := hcut
             cases kq with
             | zero => exact absurd HA.out (by simp [lambrequinlaw11_StrataLevels.j2])
             | succ kj28 =>
              have H := HA.out
              clear HA
              simp only [lambrequinlaw11_StrataLevels.j2] at H
              by_cases c33 : x84_28 = true
              ·subst c33
               have H1 : (lambrequinlaw11_StrataLevels.l1 kj28 t102 t104 t111 x8_1 t116 (wrap64 (x11_2 + 1)) l0_0 l0_1 ((rd_T64 l0_1 x8_1).head.pred) ((rd_T64 l0_1 x8_1).head.args) ((rd_T64 l0_1 x8_1).body)) = some r := by rw [if_pos rfl] at H; exact H
               clear H
               have H := H1
               clear H1
               have H' := am H
               clear H
               go_wp2
               repeat (go_quiet (fail); try go_wp2)
               go_roundg kj28
               case measure => have := HK1.out; have := HK2.out; have := HJ28.out; omega
               case rel => exact ⟨(wrap64 (x11_2 + 1)), (by first | rfl | (simp; done) | (simp [*]; done)), H', ⟨by have := HK1.out; have := HK2.out; have := HJ28.out; omega⟩, ⟨by (with_reducible repeat (first | apply Ra | apply Rn | apply Rd)); exact HO_4.out⟩, ⟨by (with_reducible repeat (first | apply Ra | apply Rn | apply Rd)); exact HO_7.out⟩, ⟨by (with_reducible repeat (first | refine bN ?_ _ | refine bD ?_ | refine bA ?_ _)); exact BK101.out⟩, ⟨by (with_reducible repeat (first | refine bN ?_ _ | refine bD ?_ | refine bA ?_ _)); exact BK115.out⟩, ⟨by repeat (first | (with_reducible first | exact HB.out | apply lA | apply lN | apply lD | refine lS ?_ GE101.out | refine lS ?_ GE115.out) | exact HB.out)⟩⟩
              ·replace c33 := Bool.eq_false_iff.mpr c33
               subst c33
               have H1 : (if t116 < 0 then (some false) else (if t118 < 0 then (some false) else (if 0 ≤ t116 then (if t116 < (t104.length : Int) then (if 0 ≤ t118 then (if t118 < (t104.length : Int) then (if (rd t104 t116) < (rd t104 t118) then (some false) else (if ((rd_T71 ((rd_T64 l0_1 x8_1).body) x11_2).kind) = 2 then (if (rd t104 t116) = (rd t104 t118) then (some false) else (lambrequinlaw11_StrataLevels.l1 kj28 t102 t104 t111 x8_1 t116 (wrap64 (x11_2 + 1)) l0_0 l0_1 ((rd_T64 l0_1 x8_1).head.pred) ((rd_T64 l0_1 x8_1).head.args) ((rd_T64 l0_1 x8_1).body))) else (lambrequinlaw11_StrataLevels.l1 kj28 t102 t104 t111 x8_1 t116 (wrap64 (x11_2 + 1)) l0_0 l0_1 ((rd_T64 l0_1 x8_1).head.pred) ((rd_T64 l0_1 x8_1).head.args) ((rd_T64 l0_1 x8_1).body)))) else (none)) else (none)) else (none)) else (none)))) = some r := by rw [if_neg (show ¬ (false = true) by decide)] at H; exact H
               clear H
               have H := H1
               clear H1
               by_cases c34 : t116 < 0
               ·rw [if_pos c34] at H
                have c34b0 : decide (t116 < 0) = true := decide_eq_true c34
                clear c34
                obtain rfl := Option.some.inj H
                go_wp2
                repeat (go_quiet (fail); try go_wp2)
                go_ret
                exact ⟨by first | rfl | (simp [errW_none, errW_some] <;> rfl) | (simp [*, errW_none, errW_some] <;> rfl), by repeat (first | (with_reducible first | exact HB.out | apply lA | apply lN | apply lD | refine lS ?_ GE101.out | refine lS ?_ GE115.out) | exact HB.out)⟩
               ·rw [if_neg c34] at H
                have c34b0 : decide (t116 < 0) = false := decide_eq_false c34
                clear c34
                by_cases c35 : t118 < 0
                ·rw [if_pos c35] at H
                 have c35b0 : decide (t118 < 0) = true := decide_eq_true c35
                 clear c35
                 obtain rfl := Option.some.inj H
                 go_wp2
                 repeat (go_quiet (fail); try go_wp2)
                 go_ret
                 exact ⟨by first | rfl | (simp [errW_none, errW_some] <;> rfl) | (simp [*, errW_none, errW_some] <;> rfl), by repeat (first | (with_reducible first | exact HB.out | apply lA | apply lN | apply lD | refine lS ?_ GE101.out | refine lS ?_ GE115.out) | exact HB.out)⟩
                ·rw [if_neg c35] at H
                 have c35b0 : decide (t118 < 0) = false := decide_eq_false c35
                 clear c35
                 by_cases c36 : 0 ≤ t116
                 ·rw [if_pos c36] at H
                  have c36b0 : decide (0 ≤ t116) = true := decide_eq_true c36
                  clear c36
                  by_cases c37 : t116 < (t104.length : Int)
                  ·rw [if_pos c37] at H
                   have c37b0 : decide (t116 < (t104.length : Int)) = true := decide_eq_true c37
                   clear c37
                   by_cases c38 : 0 ≤ t118
                   ·rw [if_pos c38] at H
                    have c38b0 : decide (0 ≤ t118) = true := decide_eq_true c38
                    clear c38
                    by_cases c39 : t118 < (t104.length : Int)
                    ·rw [if_pos c39] at H
                     have c39b0 : decide (t118 < (t104.length : Int)) = true := decide_eq_true c39
                     clear c39
                     by_cases c40 : (rd t104 t116) < (rd t104 t118)
                     ·rw [if_pos c40] at H
                      have c40b0 : decide ((rd t104 t116) < (rd t104 t118)) = true := decide_eq_true c40
                      clear c40
                      obtain rfl := Option.some.inj H
                      have p120 : 0 ≤ (t116 : Int) := of_decide_eq_true (by first | (with_reducible assumption) | assumption)
                      have q120 : t116 < (t104.length : Int) := of_decide_eq_true (by first | (with_reducible assumption) | assumption)
                      obtain ⟨ad120, e120, hx120_0⟩ := Kd.at_int (Kd.R_reads' HO_4.out).2.2 t116 p120 q120
                      cases e120
                      replace p120 := eq_true p120
                      replace q120 := eq_true q120
                      have p121 : 0 ≤ (t118 : Int) := of_decide_eq_true (by first | (with_reducible assumption) | assumption)
                      have q121 : t118 < (t104.length : Int) := of_decide_eq_true (by first | (with_reducible assumption) | assumption)
                      obtain ⟨ad121, e121, hx121_0⟩ := Kd.at_int (Kd.R_reads' HO_4.out).2.2 t118 p121 q121
                      obtain rfl : ad120 = ad121 := (by injection e121)
                      replace p121 := eq_true p121
                      replace q121 := eq_true q121
                      go_wp2
                      repeat (go_quiet (fail); try go_wp2)
                      go_ret
                      exact ⟨by first | rfl | (simp [errW_none, errW_some] <;> rfl) | (simp [*, errW_none, errW_some] <;> rfl), by repeat (first | (with_reducible first | exact HB.out | apply lA | apply lN | apply lD | refine lS ?_ GE101.out | refine lS ?_ GE115.out) | exact HB.out)⟩
                     ·rw [if_neg c40] at H
                      have c40b0 : decide ((rd t104 t116) < (rd t104 t118)) = false := decide_eq_false c40
                      clear c40
                      by_cases c41 : ((rd_T71 ((rd_T64 l0_1 x8_1).body) x11_2).kind) = 2
                      ·rw [if_pos c41] at H
                       have c41b0 : (((rd_T71 ((rd_T64 l0_1 x8_1).body) x11_2).kind) == 2) = true := beq_iff_eq.mpr c41
                       have c41b1 : (((rd_T71 ((rd_T64 l0_1 x8_1).body) x11_2).kind) != 2) = false := bne_eq_false_iff_eq.mpr c41
                       clear c41
                       by_cases c42 : (rd t104 t116) = (rd t104 t118)
                       ·rw [if_pos c42] at H
                        have c42b0 : ((rd t104 t116) == (rd t104 t118)) = true := beq_iff_eq.mpr c42
                        have c42b1 : ((rd t104 t116) != (rd t104 t118)) = false := bne_eq_false_iff_eq.mpr c42
                        clear c42
                        obtain rfl := Option.some.inj H
                        have p120 : 0 ≤ (t116 : Int) := of_decide_eq_true (by first | (with_reducible assumption) | assumption)
                        have q120 : t116 < (t104.length : Int) := of_decide_eq_true (by first | (with_reducible assumption) | assumption)
                        obtain ⟨ad120, e120, hx120_0⟩ := Kd.at_int (Kd.R_reads' HO_4.out).2.2 t116 p120 q120
                        cases e120
                        replace p120 := eq_true p120
                        replace q120 := eq_true q120
                        have p121 : 0 ≤ (t118 : Int) := of_decide_eq_true (by first | (with_reducible assumption) | assumption)
                        have q121 : t118 < (t104.length : Int) := of_decide_eq_true (by first | (with_reducible assumption) | assumption)
                        obtain ⟨ad121, e121, hx121_0⟩ := Kd.at_int (Kd.R_reads' HO_4.out).2.2 t118 p121 q121
                        obtain rfl : ad120 = ad121 := (by injection e121)
                        replace p121 := eq_true p121
                        replace q121 := eq_true q121
                        have p122 : 0 ≤ (t116 : Int) := of_decide_eq_true (by first | (with_reducible assumption) | assumption)
                        have q122 : t116 < (t104.length : Int) := of_decide_eq_true (by first | (with_reducible assumption) | assumption)
                        obtain ⟨ad122, e122, hx122_0⟩ := Kd.at_int (Kd.R_reads' HO_4.out).2.2 t116 p122 q122
                        obtain rfl : ad120 = ad122 := (by injection e122)
                        replace p122 := eq_true p122
                        replace q122 := eq_true q122
                        have p123 : 0 ≤ (t118 : Int) := of_decide_eq_true (by first | (with_reducible assumption) | assumption)
                        have q123 : t118 < (t104.length : Int) := of_decide_eq_true (by first | (with_reducible assumption) | assumption)
                        obtain ⟨ad123, e123, hx123_0⟩ := Kd.at_int (Kd.R_reads' HO_4.out).2.2 t118 p123 q123
                        obtain rfl : ad120 = ad123 := (by injection e123)
                        replace p123 := eq_true p123
                        replace q123 := eq_true q123
                        go_wp2
                        repeat (go_quiet (fail); try go_wp2)
                        go_ret
                        exact ⟨by first | rfl | (simp [errW_none, errW_some] <;> rfl) | (simp [*, errW_none, errW_some] <;> rfl), by repeat (first | (with_reducible first | exact HB.out | apply lA | apply lN | apply lD | refine lS ?_ GE101.out | refine lS ?_ GE115.out) | exact HB.out)⟩
                       ·rw [if_neg c42] at H
                        have c42b0 : ((rd t104 t116) == (rd t104 t118)) = false := beq_eq_false_iff_ne.mpr c42
                        have c42b1 : ((rd t104 t116) != (rd t104 t118)) = true := bne_iff_ne.mpr c42
                        have H' := am H
                        clear H
                        have p120 : 0 ≤ (t116 : Int) := of_decide_eq_true (by first | (with_reducible assumption) | assumption)
                        have q120 : t116 < (t104.length : Int) := of_decide_eq_true (by first | (with_reducible assumption) | assumption)
                        obtain ⟨ad120, e120, hx120_0⟩ := Kd.at_int (Kd.R_reads' HO_4.out).2.2 t116 p120 q120
                        cases e120
                        replace p120 := eq_true p120
                        replace q120 := eq_true q120
                        have p121 : 0 ≤ (t118 : Int) := of_decide_eq_true (by first | (with_reducible assumption) | assumption)
                        have q121 : t118 < (t104.length : Int) := of_decide_eq_true (by first | (with_reducible assumption) | assumption)
                        obtain ⟨ad121, e121, hx121_0⟩ := Kd.at_int (Kd.R_reads' HO_4.out).2.2 t118 p121 q121
                        obtain rfl : ad120 = ad121 := (by injection e121)
                        replace p121 := eq_true p121
                        replace q121 := eq_true q121
                        have p122 : 0 ≤ (t116 : Int) := of_decide_eq_true (by first | (with_reducible assumption) | assumption)
                        have q122 : t116 < (t104.length : Int) := of_decide_eq_true (by first | (with_reducible assumption) | assumption)
                        obtain ⟨ad122, e122, hx122_0⟩ := Kd.at_int (Kd.R_reads' HO_4.out).2.2 t116 p122 q122
                        obtain rfl : ad120 = ad122 := (by injection e122)
                        replace p122 := eq_true p122
                        replace q122 := eq_true q122
                        have p123 : 0 ≤ (t118 : Int) := of_decide_eq_true (by first | (with_reducible assumption) | assumption)
                        have q123 : t118 < (t104.length : Int) := of_decide_eq_true (by first | (with_reducible assumption) | assumption)
                        obtain ⟨ad123, e123, hx123_0⟩ := Kd.at_int (Kd.R_reads' HO_4.out).2.2 t118 p123 q123
                        obtain rfl : ad120 = ad123 := (by injection e123)
                        replace p123 := eq_true p123
                        replace q123 := eq_true q123
                        go_wp2
                        repeat (go_quiet (fail); try go_wp2)
                        go_roundg kj28
                        case measure => have := HK1.out; have := HK2.out; have := HJ28.out; omega
                        case rel => exact ⟨(wrap64 (x11_2 + 1)), (by first | rfl | (simp; done) | (simp [*]; done)), H', ⟨by have := HK1.out; have := HK2.out; have := HJ28.out; omega⟩, ⟨by (with_reducible repeat (first | apply Ra | apply Rn | apply Rd)); exact HO_4.out⟩, ⟨by (with_reducible repeat (first | apply Ra | apply Rn | apply Rd)); exact HO_7.out⟩, ⟨by (with_reducible repeat (first | refine bN ?_ _ | refine bD ?_ | refine bA ?_ _)); exact BK101.out⟩, ⟨by (with_reducible repeat (first | refine bN ?_ _ | refine bD ?_ | refine bA ?_ _)); exact BK115.out⟩, ⟨by repeat (first | (with_reducible first | exact HB.out | apply lA | apply lN | apply lD | refine lS ?_ GE101.out | refine lS ?_ GE115.out) | exact HB.out)⟩⟩
                      ·rw [if_neg c41] at H
                       have c41b0 : (((rd_T71 ((rd_T64 l0_1 x8_1).body) x11_2).kind) == 2) = false := beq_eq_false_iff_ne.mpr c41
                       have c41b1 : (((rd_T71 ((rd_T64 l0_1 x8_1).body) x11_2).kind) != 2) = true := bne_iff_ne.mpr c41
                       have H' := am H
                       clear H
                       have p120 : 0 ≤ (t116 : Int) := of_decide_eq_true (by first | (with_reducible assumption) | assumption)
                       have q120 : t116 < (t104.length : Int) := of_decide_eq_true (by first | (with_reducible assumption) | assumption)
                       obtain ⟨ad120, e120, hx120_0⟩ := Kd.at_int (Kd.R_reads' HO_4.out).2.2 t116 p120 q120
                       cases e120
                       replace p120 := eq_true p120
                       replace q120 := eq_true q120
                       have p121 : 0 ≤ (t118 : Int) := of_decide_eq_true (by first | (with_reducible assumption) | assumption)
                       have q121 : t118 < (t104.length : Int) := of_decide_eq_true (by first | (with_reducible assumption) | assumption)
                       obtain ⟨ad121, e121, hx121_0⟩ := Kd.at_int (Kd.R_reads' HO_4.out).2.2 t118 p121 q121
                       obtain rfl : ad120 = ad121 := (by injection e121)
                       replace p121 := eq_true p121
                       replace q121 := eq_true q121
                       go_wp2
                       repeat (go_quiet (fail); try go_wp2)
                       go_roundg kj28
                       case measure => have := HK1.out; have := HK2.out; have := HJ28.out; omega
                       case rel => exact ⟨(wrap64 (x11_2 + 1)), (by first | rfl | (simp; done) | (simp [*]; done)), H', ⟨by have := HK1.out; have := HK2.out; have := HJ28.out; omega⟩, ⟨by (with_reducible repeat (first | apply Ra | apply Rn | apply Rd)); exact HO_4.out⟩, ⟨by (with_reducible repeat (first | apply Ra | apply Rn | apply Rd)); exact HO_7.out⟩, ⟨by (with_reducible repeat (first | refine bN ?_ _ | refine bD ?_ | refine bA ?_ _)); exact BK101.out⟩, ⟨by (with_reducible repeat (first | refine bN ?_ _ | refine bD ?_ | refine bA ?_ _)); exact BK115.out⟩, ⟨by repeat (first | (with_reducible first | exact HB.out | apply lA | apply lN | apply lD | refine lS ?_ GE101.out | refine lS ?_ GE115.out) | exact HB.out)⟩⟩
                    ·rw [if_neg c39] at H
                     exact absurd H (by simp)
                   ·rw [if_neg c38] at H
                    exact absurd H (by simp)
                  ·rw [if_neg c37] at H
                   exact absurd H (by simp)
                 ·rw [if_neg c36] at H
                  exact absurd H (by simp)
           ·rw [if_neg c27] at H
            exact absurd H (by simp)
          ·rw [if_neg c26] at H
           have c26b0 : decide (x11_2 < (((rd_T64 l0_1 x8_1).body).length : Int)) = false := decide_eq_false c26
           clear c26
           have H' := am H
           clear H
           have hnb43 := NB115_101.out
           have hnc43 := NB101_115.out
           have hcz44_0 : wr.cell? ⟨gb115, 0, none⟩ = some (.string ((rd_T64 l0_1 x8_1).head.pred)) := (blk_cell BK115.out 0).trans rfl
           have hcz44_1 : wr.cell? ⟨gb115, 1, none⟩ = some (.slice A114_1 ((rd_T64 l0_1 x8_1).head.args).length c114_1) := (blk_cell BK115.out 1).trans rfl
           have hcz44_2 : wr.cell? ⟨gb115, 2, none⟩ = some (.slice A114_2 ((rd_T64 l0_1 x8_1).body).length c114_2) := (blk_cell BK115.out 2).trans rfl
           have hfz44_0 := blk_frozen BK115.out 0
           have hfz44_1 := blk_frozen BK115.out 1
           have hfz44_2 := blk_frozen BK115.out 2
           go_wp2
           repeat (go_quiet (fail); try go_wp2)
           go_roundg k2
           case measure => have := HK1.out; have := HK2.out; omega
           case rel => exact ⟨(wrap64 (x8_1 + 1)), (by first | rfl | (simp; done) | (simp [*]; done)), H', ⟨by have := HK1.out; have := HK2.out; omega⟩, ⟨by (with_reducible repeat (first | apply Ra | apply Rn | apply Rd)); exact HO_4.out⟩, ⟨by (with_reducible repeat (first | apply Ra | apply Rn | apply Rd)); exact HO_7.out⟩, ⟨by (with_reducible repeat (first | refine bN ?_ _ | refine bD ?_ | refine bA ?_ _)); exact BK101.out⟩, ⟨by repeat (first | (with_reducible first | exact HB.out | apply lA | apply lN | apply lD | refine lS ?_ GE101.out | refine lS ?_ GE115.out) | exact HB.out)⟩⟩
       ·rw [if_neg c20] at H
        exact absurd H (by simp)
      ·rw [if_neg c19] at H
       have c19b0 : decide (x8_1 < (l0_1.length : Int)) = false := decide_eq_false c19
       clear c19
       obtain rfl := Option.some.inj H
       have hcz45_0 : wr.cell? ⟨gb101, 0, none⟩ = some (.slice A0_0 l0_0.length c0_0) := (blk_cell BK101.out 0).trans rfl
       have hcz45_1 : wr.cell? ⟨gb101, 1, none⟩ = some (.slice A0_1 l0_1.length c0_1) := (blk_cell BK101.out 1).trans rfl
       have hfz45_0 := blk_frozen BK101.out 0
       have hfz45_1 := blk_frozen BK101.out 1
       go_wp2
       repeat (go_quiet (fail); try go_wp2)
       go_ret
       exact ⟨by first | rfl | (simp [errW_none, errW_some] <;> rfl) | (simp [*, errW_none, errW_some] <;> rfl), by repeat (first | (with_reducible first | exact HB.out | apply lA | apply lN | apply lD | refine lS ?_ GE101.out) | exact HB.out)⟩
   ·rw [if_neg c8] at H
    have c8b0 : ((t104.length : Int) == (t111.length : Int)) = false := beq_eq_false_iff_ne.mpr c8
    have c8b1 : ((t104.length : Int) != (t111.length : Int)) = true := bne_iff_ne.mpr c8
    have c8b2 : (t104.length == t111.length) = false := by first | simpa using c8 | (simp at c8 ⊢; omega)
    obtain rfl := Option.some.inj H
    go_enter Try.func10, Try.ntmps10
    go_wp2_with (first | ((with_reducible refine gate_dst (N := 1) rfl ?_); (try (refine gate_guard (by rfl) ?_; dsimp only)); refine box_event ?hg (N := 1) ?hd (cs := #[.slice A0_0 l0_0.length c0_0, .slice A0_1 l0_1.length c0_1]) (t := 50) ?hr ?_; (case hd => rfl); (case hg => rfl); (case hr => first | (go_simp; done) | (go_simp; rfl)); intro gb101 hg w46 hbox hb; have BK101 := am (hbox); have GW101 := am ((by rw [hg]; exact (below_size (by repeat (first | (with_reducible first | exact HB.out | apply lA | apply lN | apply lD) | exact HB.out))) : w.heap.size ≤ gb101)); have GE101 := am ((by rw [hg]; exact (below_size (by repeat (first | (with_reducible first | exact HB.out | apply lA | apply lN | apply lD) | exact HB.out))) : w.heap.size ≤ gb101)); replace HB := am (below_step (by repeat (first | (with_reducible first | exact HB.out | apply lA | apply lN | apply lD) | exact HB.out)) hb); clear hb hbox hg) | (go_at_call 27; (with_reducible refine (lambrequinlaw11_shown.calls k  t102 _ A2.out).mono ?_); rintro e w47 ⟨rfl, hb⟩; replace BK101 := am (blk_below (g := gb101) (o := .cells #[.slice A0_0 l0_0.length c0_0, .slice A0_1 l0_1.length c0_1] 50 (0, 0)) (by (with_reducible repeat (first | refine bN ?_ _ | refine bD ?_ | refine bA ?_ _)); exact BK101.out) hb); replace HB := am (below_step (by repeat (first | (with_reducible first | exact HB.out | apply lA | apply lN | apply lD | refine lS ?_ GE101.out) | exact HB.out)) hb); (try clear hb); (try clear hb2); (try clear hk); (try clear hi); have hcz48_0 : w47.cell? ⟨gb101, 0, none⟩ = some (.slice A0_0 l0_0.length c0_0) := (blk_cell BK101.out 0).trans rfl; have hcz48_1 : w47.cell? ⟨gb101, 1, none⟩ = some (.slice A0_1 l0_1.length c0_1) := (blk_cell BK101.out 1).trans rfl; have hfz48_0 := blk_frozen BK101.out 0; have hfz48_1 := blk_frozen BK101.out 1) | (go_at_call 28; (with_reducible refine (lambrequinlaw11_few.calls k _ _ l0_0 _ _ l0_1 true _ ?side1 ?side2 ?side3 ?side4 A3.out).mono ?_); (case side1 => repeat (first | exact (Kd.C_below HR0_0.out HB.out) | (with_reducible refine Kd.C_alloc ?_ _) | (with_reducible refine Kd.C_drewN ?_ _) | (with_reducible refine Kd.C_drew ?_))); (case side2 => exact HC0_0.out); (case side3 => repeat (first | exact (Kd.C_below HR0_1.out HB.out) | (with_reducible refine Kd.C_alloc ?_ _) | (with_reducible refine Kd.C_drewN ?_ _) | (with_reducible refine Kd.C_drew ?_))); (case side4 => exact HC0_1.out); rintro e w49 ⟨rfl, hb⟩; replace BK101 := am (blk_below (g := gb101) (o := .cells #[.slice A0_0 l0_0.length c0_0, .slice A0_1 l0_1.length c0_1] 50 (0, 0)) (by (with_reducible repeat (first | refine bN ?_ _ | refine bD ?_ | refine bA ?_ _)); exact BK101.out) hb); replace HB := am (below_step (by repeat (first | (with_reducible first | exact HB.out | apply lA | apply lN | apply lD | refine lS ?_ GE101.out) | exact HB.out)) hb); (try clear hb); (try clear hb2); (try clear hk); (try clear hi); have hcz50_0 : w49.cell? ⟨gb101, 0, none⟩ = some (.slice A0_0 l0_0.length c0_0) := (blk_cell BK101.out 0).trans rfl; have hcz50_1 : w49.cell? ⟨gb101, 1, none⟩ = some (.slice A0_1 l0_1.length c0_1) := (blk_cell BK101.out 1).trans rfl; have hfz50_0 := blk_frozen BK101.out 0; have hfz50_1 := blk_frozen BK101.out 1) | (go_at_call 29; (with_reducible refine (strata_Of.calls k _ _ l0_0 _ _ l0_1 t104 t107 t110 _ ?side1 ?side2 ?side3 ?side4 A5.out).mono ?_); (case side1 => repeat (first | exact (Kd.C_below HR0_0.out HB.out) | (with_reducible refine Kd.C_alloc ?_ _) | (with_reducible refine Kd.C_drewN ?_ _) | (with_reducible refine Kd.C_drew ?_))); (case side2 => exact HC0_0.out); (case side3 => repeat (first | exact (Kd.C_below HR0_1.out HB.out) | (with_reducible refine Kd.C_alloc ?_ _) | (with_reducible refine Kd.C_drewN ?_ _) | (with_reducible refine Kd.C_drew ?_))); (case side4 => exact HC0_1.out); rintro e w51 ⟨v105, v108, rfl, ho0, ho1, hb⟩; have HO106 := am (Kd.R_lower ho0 (below_size (by repeat (first | (with_reducible first | exact HB.out | apply lA | apply lN | apply lD | refine lS ?_ GE101.out) | exact HB.out)))); have HO109 := am (Kd.R_lower ho1 (below_size (by repeat (first | (with_reducible first | exact HB.out | apply lA | apply lN | apply lD | refine lS ?_ GE101.out) | exact HB.out)))); replace BK101 := am (blk_below (g := gb101) (o := .cells #[.slice A0_0 l0_0.length c0_0, .slice A0_1 l0_1.length c0_1] 50 (0, 0)) (by (with_reducible repeat (first | refine bN ?_ _ | refine bD ?_ | refine bA ?_ _)); exact BK101.out) hb); replace HB := am (below_step (by repeat (first | (with_reducible first | exact HB.out | apply lA | apply lN | apply lD | refine lS ?_ GE101.out) | exact HB.out)) hb); (try clear hb); (try clear hb2); (try clear hk); (try clear hi); (try clear ho0); (try clear ho1); have hcz52_0 : w51.cell? ⟨gb101, 0, none⟩ = some (.slice A0_0 l0_0.length c0_0) := (blk_cell BK101.out 0).trans rfl; have hcz52_1 : w51.cell? ⟨gb101, 1, none⟩ = some (.slice A0_1 l0_1.length c0_1) := (blk_cell BK101.out 1).trans rfl; have hfz52_0 := blk_frozen BK101.out 0; have hfz52_1 := blk_frozen BK101.out 1) | (go_at_call 32; (with_reducible refine (strata_Preds.calls k _ _ l0_0 _ _ l0_1 t111 _ ?side1 ?side2 ?side3 ?side4 A7.out).mono ?_); (case side1 => repeat (first | exact (Kd.C_below HR0_0.out HB.out) | (with_reducible refine Kd.C_alloc ?_ _) | (with_reducible refine Kd.C_drewN ?_ _) | (with_reducible refine Kd.C_drew ?_))); (case side2 => exact HC0_0.out); (case side3 => repeat (first | exact (Kd.C_below HR0_1.out HB.out) | (with_reducible refine Kd.C_alloc ?_ _) | (with_reducible refine Kd.C_drewN ?_ _) | (with_reducible refine Kd.C_drew ?_))); (case side4 => exact HC0_1.out); rintro e w53 ⟨v112, rfl, ho0, hb⟩; replace HO106 := am (Kd.R_below (by (with_reducible repeat (first | apply Ra | apply Rn | apply Rd)); exact HO106.out) hb); have HO113 := am (Kd.R_lower (Kd.R_new' ho0 (Kd.R_lt (by (with_reducible repeat (first | apply Ra | apply Rn | apply Rd)); exact HO109.out))) (below_size (by repeat (first | (with_reducible first | exact HB.out | apply lA | apply lN | apply lD | refine lS ?_ GE101.out) | exact HB.out)))); replace HO109 := am (Kd.R_elder' (by (with_reducible repeat (first | apply Ra | apply Rn | apply Rd)); exact HO109.out) (Kd.R_base ho0) hb); replace BK101 := am (blk_below (g := gb101) (o := .cells #[.slice A0_0 l0_0.length c0_0, .slice A0_1 l0_1.length c0_1] 50 (0, 0)) (by (with_reducible repeat (first | refine bN ?_ _ | refine bD ?_ | refine bA ?_ _)); exact BK101.out) hb); replace HB := am (below_step (by repeat (first | (with_reducible first | exact HB.out | apply lA | apply lN | apply lD | refine lS ?_ GE101.out) | exact HB.out)) hb); (try clear hb); (try clear hb2); (try clear hk); (try clear hi); (try clear ho0); obtain ⟨Ao54, co54, eo54⟩ := Kd.R_slice HO106.out; subst eo54; obtain ⟨Ao55, co55, eo55⟩ := Kd.R_slice HO113.out; subst eo55))
    repeat (go_quiet (first | ((with_reducible refine gate_dst (N := 1) rfl ?_); (try (refine gate_guard (by rfl) ?_; dsimp only)); refine box_event ?hg (N := 1) ?hd (cs := #[.slice A0_0 l0_0.length c0_0, .slice A0_1 l0_1.length c0_1]) (t := 50) ?hr ?_; (case hd => rfl); (case hg => rfl); (case hr => first | (go_simp; done) | (go_simp; rfl)); intro gb101 hg w46 hbox hb; have BK101 := am (hbox); have GW101 := am ((by rw [hg]; exact (below_size (by repeat (first | (with_reducible first | exact HB.out | apply lA | apply lN | apply lD) | exact HB.out))) : w.heap.size ≤ gb101)); have GE101 := am ((by rw [hg]; exact (below_size (by repeat (first | (with_reducible first | exact HB.out | apply lA | apply lN | apply lD) | exact HB.out))) : w.heap.size ≤ gb101)); replace HB := am (below_step (by repeat (first | (with_reducible first | exact HB.out | apply lA | apply lN | apply lD) | exact HB.out)) hb); clear hb hbox hg) | (go_at_call 27; (with_reducible refine (lambrequinlaw11_shown.calls k  t102 _ A2.out).mono ?_); rintro e w47 ⟨rfl, hb⟩; replace BK101 := am (blk_below (g := gb101) (o := .cells #[.slice A0_0 l0_0.length c0_0, .slice A0_1 l0_1.length c0_1] 50 (0, 0)) (by (with_reducible repeat (first | refine bN ?_ _ | refine bD ?_ | refine bA ?_ _)); exact BK101.out) hb); replace HB := am (below_step (by repeat (first | (with_reducible first | exact HB.out | apply lA | apply lN | apply lD | refine lS ?_ GE101.out) | exact HB.out)) hb); (try clear hb); (try clear hb2); (try clear hk); (try clear hi); have hcz48_0 : w47.cell? ⟨gb101, 0, none⟩ = some (.slice A0_0 l0_0.length c0_0) := (blk_cell BK101.out 0).trans rfl; have hcz48_1 : w47.cell? ⟨gb101, 1, none⟩ = some (.slice A0_1 l0_1.length c0_1) := (blk_cell BK101.out 1).trans rfl; have hfz48_0 := blk_frozen BK101.out 0; have hfz48_1 := blk_frozen BK101.out 1) | (go_at_call 28; (with_reducible refine (lambrequinlaw11_few.calls k _ _ l0_0 _ _ l0_1 true _ ?side1 ?side2 ?side3 ?side4 A3.out).mono ?_); (case side1 => repeat (first | exact (Kd.C_below HR0_0.out HB.out) | (with_reducible refine Kd.C_alloc ?_ _) | (with_reducible refine Kd.C_drewN ?_ _) | (with_reducible refine Kd.C_drew ?_))); (case side2 => exact HC0_0.out); (case side3 => repeat (first | exact (Kd.C_below HR0_1.out HB.out) | (with_reducible refine Kd.C_alloc ?_ _) | (with_reducible refine Kd.C_drewN ?_ _) | (with_reducible refine Kd.C_drew ?_))); (case side4 => exact HC0_1.out); rintro e w49 ⟨rfl, hb⟩; replace BK101 := am (blk_below (g := gb101) (o := .cells #[.slice A0_0 l0_0.length c0_0, .slice A0_1 l0_1.length c0_1] 50 (0, 0)) (by (with_reducible repeat (first | refine bN ?_ _ | refine bD ?_ | refine bA ?_ _)); exact BK101.out) hb); replace HB := am (below_step (by repeat (first | (with_reducible first | exact HB.out | apply lA | apply lN | apply lD | refine lS ?_ GE101.out) | exact HB.out)) hb); (try clear hb); (try clear hb2); (try clear hk); (try clear hi); have hcz50_0 : w49.cell? ⟨gb101, 0, none⟩ = some (.slice A0_0 l0_0.length c0_0) := (blk_cell BK101.out 0).trans rfl; have hcz50_1 : w49.cell? ⟨gb101, 1, none⟩ = some (.slice A0_1 l0_1.length c0_1) := (blk_cell BK101.out 1).trans rfl; have hfz50_0 := blk_frozen BK101.out 0; have hfz50_1 := blk_frozen BK101.out 1) | (go_at_call 29; (with_reducible refine (strata_Of.calls k _ _ l0_0 _ _ l0_1 t104 t107 t110 _ ?side1 ?side2 ?side3 ?side4 A5.out).mono ?_); (case side1 => repeat (first | exact (Kd.C_below HR0_0.out HB.out) | (with_reducible refine Kd.C_alloc ?_ _) | (with_reducible refine Kd.C_drewN ?_ _) | (with_reducible refine Kd.C_drew ?_))); (case side2 => exact HC0_0.out); (case side3 => repeat (first | exact (Kd.C_below HR0_1.out HB.out) | (with_reducible refine Kd.C_alloc ?_ _) | (with_reducible refine Kd.C_drewN ?_ _) | (with_reducible refine Kd.C_drew ?_))); (case side4 => exact HC0_1.out); rintro e w51 ⟨v105, v108, rfl, ho0, ho1, hb⟩; have HO106 := am (Kd.R_lower ho0 (below_size (by repeat (first | (with_reducible first | exact HB.out | apply lA | apply lN | apply lD | refine lS ?_ GE101.out) | exact HB.out)))); have HO109 := am (Kd.R_lower ho1 (below_size (by repeat (first | (with_reducible first | exact HB.out | apply lA | apply lN | apply lD | refine lS ?_ GE101.out) | exact HB.out)))); replace BK101 := am (blk_below (g := gb101) (o := .cells #[.slice A0_0 l0_0.length c0_0, .slice A0_1 l0_1.length c0_1] 50 (0, 0)) (by (with_reducible repeat (first | refine bN ?_ _ | refine bD ?_ | refine bA ?_ _)); exact BK101.out) hb); replace HB := am (below_step (by repeat (first | (with_reducible first | exact HB.out | apply lA | apply lN | apply lD | refine lS ?_ GE101.out) | exact HB.out)) hb); (try clear hb); (try clear hb2); (try clear hk); (try clear hi); (try clear ho0); (try clear ho1); have hcz52_0 : w51.cell? ⟨gb101, 0, none⟩ = some (.slice A0_0 l0_0.length c0_0) := (blk_cell BK101.out 0).trans rfl; have hcz52_1 : w51.cell? ⟨gb101, 1, none⟩ = some (.slice A0_1 l0_1.length c0_1) := (blk_cell BK101.out 1).trans rfl; have hfz52_0 := blk_frozen BK101.out 0; have hfz52_1 := blk_frozen BK101.out 1) | (go_at_call 32; (with_reducible refine (strata_Preds.calls k _ _ l0_0 _ _ l0_1 t111 _ ?side1 ?side2 ?side3 ?side4 A7.out).mono ?_); (case side1 => repeat (first | exact (Kd.C_below HR0_0.out HB.out) | (with_reducible refine Kd.C_alloc ?_ _) | (with_reducible refine Kd.C_drewN ?_ _) | (with_reducible refine Kd.C_drew ?_))); (case side2 => exact HC0_0.out); (case side3 => repeat (first | exact (Kd.C_below HR0_1.out HB.out) | (with_reducible refine Kd.C_alloc ?_ _) | (with_reducible refine Kd.C_drewN ?_ _) | (with_reducible refine Kd.C_drew ?_))); (case side4 => exact HC0_1.out); rintro e w53 ⟨v112, rfl, ho0, hb⟩; replace HO106 := am (Kd.R_below (by (with_reducible repeat (first | apply Ra | apply Rn | apply Rd)); exact HO106.out) hb); have HO113 := am (Kd.R_lower (Kd.R_new' ho0 (Kd.R_lt (by (with_reducible repeat (first | apply Ra | apply Rn | apply Rd)); exact HO109.out))) (below_size (by repeat (first | (with_reducible first | exact HB.out | apply lA | apply lN | apply lD | refine lS ?_ GE101.out) | exact HB.out)))); replace HO109 := am (Kd.R_elder' (by (with_reducible repeat (first | apply Ra | apply Rn | apply Rd)); exact HO109.out) (Kd.R_base ho0) hb); replace BK101 := am (blk_below (g := gb101) (o := .cells #[.slice A0_0 l0_0.length c0_0, .slice A0_1 l0_1.length c0_1] 50 (0, 0)) (by (with_reducible repeat (first | refine bN ?_ _ | refine bD ?_ | refine bA ?_ _)); exact BK101.out) hb); replace HB := am (below_step (by repeat (first | (with_reducible first | exact HB.out | apply lA | apply lN | apply lD | refine lS ?_ GE101.out) | exact HB.out)) hb); (try clear hb); (try clear hb2); (try clear hk); (try clear hi); (try clear ho0); obtain ⟨Ao54, co54, eo54⟩ := Kd.R_slice HO106.out; subst eo54; obtain ⟨Ao55, co55, eo55⟩ := Kd.R_slice HO113.out; subst eo55)); try go_wp2_with (first | ((with_reducible refine gate_dst (N := 1) rfl ?_); (try (refine gate_guard (by rfl) ?_; dsimp only)); refine box_event ?hg (N := 1) ?hd (cs := #[.slice A0_0 l0_0.length c0_0, .slice A0_1 l0_1.length c0_1]) (t := 50) ?hr ?_; (case hd => rfl); (case hg => rfl); (case hr => first | (go_simp; done) | (go_simp; rfl)); intro gb101 hg w46 hbox hb; have BK101 := am (hbox); have GW101 := am ((by rw [hg]; exact (below_size (by repeat (first | (with_reducible first | exact HB.out | apply lA | apply lN | apply lD) | exact HB.out))) : w.heap.size ≤ gb101)); have GE101 := am ((by rw [hg]; exact (below_size (by repeat (first | (with_reducible first | exact HB.out | apply lA | apply lN | apply lD) | exact HB.out))) : w.heap.size ≤ gb101)); replace HB := am (below_step (by repeat (first | (with_reducible first | exact HB.out | apply lA | apply lN | apply lD) | exact HB.out)) hb); clear hb hbox hg) | (go_at_call 27; (with_reducible refine (lambrequinlaw11_shown.calls k  t102 _ A2.out).mono ?_); rintro e w47 ⟨rfl, hb⟩; replace BK101 := am (blk_below (g := gb101) (o := .cells #[.slice A0_0 l0_0.length c0_0, .slice A0_1 l0_1.length c0_1] 50 (0, 0)) (by (with_reducible repeat (first | refine bN ?_ _ | refine bD ?_ | refine bA ?_ _)); exact BK101.out) hb); replace HB := am (below_step (by repeat (first | (with_reducible first | exact HB.out | apply lA | apply lN | apply lD | refine lS ?_ GE101.out) | exact HB.out)) hb); (try clear hb); (try clear hb2); (try clear hk); (try clear hi); have hcz48_0 : w47.cell? ⟨gb101, 0, none⟩ = some (.slice A0_0 l0_0.length c0_0) := (blk_cell BK101.out 0).trans rfl; have hcz48_1 : w47.cell? ⟨gb101, 1, none⟩ = some (.slice A0_1 l0_1.length c0_1) := (blk_cell BK101.out 1).trans rfl; have hfz48_0 := blk_frozen BK101.out 0; have hfz48_1 := blk_frozen BK101.out 1) | (go_at_call 28; (with_reducible refine (lambrequinlaw11_few.calls k _ _ l0_0 _ _ l0_1 true _ ?side1 ?side2 ?side3 ?side4 A3.out).mono ?_); (case side1 => repeat (first | exact (Kd.C_below HR0_0.out HB.out) | (with_reducible refine Kd.C_alloc ?_ _) | (with_reducible refine Kd.C_drewN ?_ _) | (with_reducible refine Kd.C_drew ?_))); (case side2 => exact HC0_0.out); (case side3 => repeat (first | exact (Kd.C_below HR0_1.out HB.out) | (with_reducible refine Kd.C_alloc ?_ _) | (with_reducible refine Kd.C_drewN ?_ _) | (with_reducible refine Kd.C_drew ?_))); (case side4 => exact HC0_1.out); rintro e w49 ⟨rfl, hb⟩; replace BK101 := am (blk_below (g := gb101) (o := .cells #[.slice A0_0 l0_0.length c0_0, .slice A0_1 l0_1.length c0_1] 50 (0, 0)) (by (with_reducible repeat (first | refine bN ?_ _ | refine bD ?_ | refine bA ?_ _)); exact BK101.out) hb); replace HB := am (below_step (by repeat (first | (with_reducible first | exact HB.out | apply lA | apply lN | apply lD | refine lS ?_ GE101.out) | exact HB.out)) hb); (try clear hb); (try clear hb2); (try clear hk); (try clear hi); have hcz50_0 : w49.cell? ⟨gb101, 0, none⟩ = some (.slice A0_0 l0_0.length c0_0) := (blk_cell BK101.out 0).trans rfl; have hcz50_1 : w49.cell? ⟨gb101, 1, none⟩ = some (.slice A0_1 l0_1.length c0_1) := (blk_cell BK101.out 1).trans rfl; have hfz50_0 := blk_frozen BK101.out 0; have hfz50_1 := blk_frozen BK101.out 1) | (go_at_call 29; (with_reducible refine (strata_Of.calls k _ _ l0_0 _ _ l0_1 t104 t107 t110 _ ?side1 ?side2 ?side3 ?side4 A5.out).mono ?_); (case side1 => repeat (first | exact (Kd.C_below HR0_0.out HB.out) | (with_reducible refine Kd.C_alloc ?_ _) | (with_reducible refine Kd.C_drewN ?_ _) | (with_reducible refine Kd.C_drew ?_))); (case side2 => exact HC0_0.out); (case side3 => repeat (first | exact (Kd.C_below HR0_1.out HB.out) | (with_reducible refine Kd.C_alloc ?_ _) | (with_reducible refine Kd.C_drewN ?_ _) | (with_reducible refine Kd.C_drew ?_))); (case side4 => exact HC0_1.out); rintro e w51 ⟨v105, v108, rfl, ho0, ho1, hb⟩; have HO106 := am (Kd.R_lower ho0 (below_size (by repeat (first | (with_reducible first | exact HB.out | apply lA | apply lN | apply lD | refine lS ?_ GE101.out) | exact HB.out)))); have HO109 := am (Kd.R_lower ho1 (below_size (by repeat (first | (with_reducible first | exact HB.out | apply lA | apply lN | apply lD | refine lS ?_ GE101.out) | exact HB.out)))); replace BK101 := am (blk_below (g := gb101) (o := .cells #[.slice A0_0 l0_0.length c0_0, .slice A0_1 l0_1.length c0_1] 50 (0, 0)) (by (with_reducible repeat (first | refine bN ?_ _ | refine bD ?_ | refine bA ?_ _)); exact BK101.out) hb); replace HB := am (below_step (by repeat (first | (with_reducible first | exact HB.out | apply lA | apply lN | apply lD | refine lS ?_ GE101.out) | exact HB.out)) hb); (try clear hb); (try clear hb2); (try clear hk); (try clear hi); (try clear ho0); (try clear ho1); have hcz52_0 : w51.cell? ⟨gb101, 0, none⟩ = some (.slice A0_0 l0_0.length c0_0) := (blk_cell BK101.out 0).trans rfl; have hcz52_1 : w51.cell? ⟨gb101, 1, none⟩ = some (.slice A0_1 l0_1.length c0_1) := (blk_cell BK101.out 1).trans rfl; have hfz52_0 := blk_frozen BK101.out 0; have hfz52_1 := blk_frozen BK101.out 1) | (go_at_call 32; (with_reducible refine (strata_Preds.calls k _ _ l0_0 _ _ l0_1 t111 _ ?side1 ?side2 ?side3 ?side4 A7.out).mono ?_); (case side1 => repeat (first | exact (Kd.C_below HR0_0.out HB.out) | (with_reducible refine Kd.C_alloc ?_ _) | (with_reducible refine Kd.C_drewN ?_ _) | (with_reducible refine Kd.C_drew ?_))); (case side2 => exact HC0_0.out); (case side3 => repeat (first | exact (Kd.C_below HR0_1.out HB.out) | (with_reducible refine Kd.C_alloc ?_ _) | (with_reducible refine Kd.C_drewN ?_ _) | (with_reducible refine Kd.C_drew ?_))); (case side4 => exact HC0_1.out); rintro e w53 ⟨v112, rfl, ho0, hb⟩; replace HO106 := am (Kd.R_below (by (with_reducible repeat (first | apply Ra | apply Rn | apply Rd)); exact HO106.out) hb); have HO113 := am (Kd.R_lower (Kd.R_new' ho0 (Kd.R_lt (by (with_reducible repeat (first | apply Ra | apply Rn | apply Rd)); exact HO109.out))) (below_size (by repeat (first | (with_reducible first | exact HB.out | apply lA | apply lN | apply lD | refine lS ?_ GE101.out) | exact HB.out)))); replace HO109 := am (Kd.R_elder' (by (with_reducible repeat (first | apply Ra | apply Rn | apply Rd)); exact HO109.out) (Kd.R_base ho0) hb); replace BK101 := am (blk_below (g := gb101) (o := .cells #[.slice A0_0 l0_0.length c0_0, .slice A0_1 l0_1.length c0_1] 50 (0, 0)) (by (with_reducible repeat (first | refine bN ?_ _ | refine bD ?_ | refine bA ?_ _)); exact BK101.out) hb); replace HB := am (below_step (by repeat (first | (with_reducible first | exact HB.out | apply lA | apply lN | apply lD | refine lS ?_ GE101.out) | exact HB.out)) hb); (try clear hb); (try clear hb2); (try clear hk); (try clear hi); (try clear ho0); obtain ⟨Ao54, co54, eo54⟩ := Kd.R_slice HO106.out; subst eo54; obtain ⟨Ao55, co55, eo55⟩ := Kd.R_slice HO113.out; subst eo55)))
    go_ret
    exact ⟨by first | rfl | (simp [errW_none, errW_some] <;> rfl) | (simp [*, errW_none, errW_some] <;> rfl), by repeat (first | (with_reducible first | exact HB.out | apply lA | apply lN | apply lD | refine lS ?_ GE101.out) | exact HB.out)⟩
  ·rw [if_neg c6] at H
   have c6b0 : (t110 == 0) = false := beq_eq_false_iff_ne.mpr c6
   have c6b1 : (t110 != 0) = true := bne_iff_ne.mpr c6
   by_cases c56 : t102 = true
   ·subst c56
    have H1 : (some ((t104.length : Int) == 0)) = some r := by rw [if_pos rfl] at H; exact H
    clear H
    have H := H1
    clear H1
    obtain rfl := Option.some.inj H
    go_enter Try.func10, Try.ntmps10
    go_wp2_with (first | ((with_reducible refine gate_dst (N := 1) rfl ?_); (try (refine gate_guard (by rfl) ?_; dsimp only)); refine box_event ?hg (N := 1) ?hd (cs := #[.slice A0_0 l0_0.length c0_0, .slice A0_1 l0_1.length c0_1]) (t := 50) ?hr ?_; (case hd => rfl); (case hg => rfl); (case hr => first | (go_simp; done) | (go_simp; rfl)); intro gb101 hg w57 hbox hb; have BK101 := am (hbox); have GW101 := am ((by rw [hg]; exact (below_size (by repeat (first | (with_reducible first | exact HB.out | apply lA | apply lN | apply lD) | exact HB.out))) : w.heap.size ≤ gb101)); have GE101 := am ((by rw [hg]; exact (below_size (by repeat (first | (with_reducible first | exact HB.out | apply lA | apply lN | apply lD) | exact HB.out))) : w.heap.size ≤ gb101)); replace HB := am (below_step (by repeat (first | (with_reducible first | exact HB.out | apply lA | apply lN | apply lD) | exact HB.out)) hb); clear hb hbox hg) | (go_at_call 27; (with_reducible refine (lambrequinlaw11_shown.calls k  true _ A2.out).mono ?_); rintro e w58 ⟨rfl, hb⟩; replace BK101 := am (blk_below (g := gb101) (o := .cells #[.slice A0_0 l0_0.length c0_0, .slice A0_1 l0_1.length c0_1] 50 (0, 0)) (by (with_reducible repeat (first | refine bN ?_ _ | refine bD ?_ | refine bA ?_ _)); exact BK101.out) hb); replace HB := am (below_step (by repeat (first | (with_reducible first | exact HB.out | apply lA | apply lN | apply lD | refine lS ?_ GE101.out) | exact HB.out)) hb); (try clear hb); (try clear hb2); (try clear hk); (try clear hi); have hcz59_0 : w58.cell? ⟨gb101, 0, none⟩ = some (.slice A0_0 l0_0.length c0_0) := (blk_cell BK101.out 0).trans rfl; have hcz59_1 : w58.cell? ⟨gb101, 1, none⟩ = some (.slice A0_1 l0_1.length c0_1) := (blk_cell BK101.out 1).trans rfl; have hfz59_0 := blk_frozen BK101.out 0; have hfz59_1 := blk_frozen BK101.out 1) | (go_at_call 28; (with_reducible refine (lambrequinlaw11_few.calls k _ _ l0_0 _ _ l0_1 true _ ?side1 ?side2 ?side3 ?side4 A3.out).mono ?_); (case side1 => repeat (first | exact (Kd.C_below HR0_0.out HB.out) | (with_reducible refine Kd.C_alloc ?_ _) | (with_reducible refine Kd.C_drewN ?_ _) | (with_reducible refine Kd.C_drew ?_))); (case side2 => exact HC0_0.out); (case side3 => repeat (first | exact (Kd.C_below HR0_1.out HB.out) | (with_reducible refine Kd.C_alloc ?_ _) | (with_reducible refine Kd.C_drewN ?_ _) | (with_reducible refine Kd.C_drew ?_))); (case side4 => exact HC0_1.out); rintro e w60 ⟨rfl, hb⟩; replace BK101 := am (blk_below (g := gb101) (o := .cells #[.slice A0_0 l0_0.length c0_0, .slice A0_1 l0_1.length c0_1] 50 (0, 0)) (by (with_reducible repeat (first | refine bN ?_ _ | refine bD ?_ | refine bA ?_ _)); exact BK101.out) hb); replace HB := am (below_step (by repeat (first | (with_reducible first | exact HB.out | apply lA | apply lN | apply lD | refine lS ?_ GE101.out) | exact HB.out)) hb); (try clear hb); (try clear hb2); (try clear hk); (try clear hi); have hcz61_0 : w60.cell? ⟨gb101, 0, none⟩ = some (.slice A0_0 l0_0.length c0_0) := (blk_cell BK101.out 0).trans rfl; have hcz61_1 : w60.cell? ⟨gb101, 1, none⟩ = some (.slice A0_1 l0_1.length c0_1) := (blk_cell BK101.out 1).trans rfl; have hfz61_0 := blk_frozen BK101.out 0; have hfz61_1 := blk_frozen BK101.out 1) | (go_at_call 29; (with_reducible refine (strata_Of.calls k _ _ l0_0 _ _ l0_1 t104 t107 t110 _ ?side1 ?side2 ?side3 ?side4 A5.out).mono ?_); (case side1 => repeat (first | exact (Kd.C_below HR0_0.out HB.out) | (with_reducible refine Kd.C_alloc ?_ _) | (with_reducible refine Kd.C_drewN ?_ _) | (with_reducible refine Kd.C_drew ?_))); (case side2 => exact HC0_0.out); (case side3 => repeat (first | exact (Kd.C_below HR0_1.out HB.out) | (with_reducible refine Kd.C_alloc ?_ _) | (with_reducible refine Kd.C_drewN ?_ _) | (with_reducible refine Kd.C_drew ?_))); (case side4 => exact HC0_1.out); rintro e w62 ⟨v105, v108, rfl, ho0, ho1, hb⟩; have HO106 := am (Kd.R_lower ho0 (below_size (by repeat (first | (with_reducible first | exact HB.out | apply lA | apply lN | apply lD | refine lS ?_ GE101.out) | exact HB.out)))); have HO109 := am (Kd.R_lower ho1 (below_size (by repeat (first | (with_reducible first | exact HB.out | apply lA | apply lN | apply lD | refine lS ?_ GE101.out) | exact HB.out)))); replace BK101 := am (blk_below (g := gb101) (o := .cells #[.slice A0_0 l0_0.length c0_0, .slice A0_1 l0_1.length c0_1] 50 (0, 0)) (by (with_reducible repeat (first | refine bN ?_ _ | refine bD ?_ | refine bA ?_ _)); exact BK101.out) hb); replace HB := am (below_step (by repeat (first | (with_reducible first | exact HB.out | apply lA | apply lN | apply lD | refine lS ?_ GE101.out) | exact HB.out)) hb); (try clear hb); (try clear hb2); (try clear hk); (try clear hi); (try clear ho0); (try clear ho1); obtain ⟨Ao63, co63, eo63⟩ := Kd.R_slice HO106.out; subst eo63))
    repeat (go_quiet (first | ((with_reducible refine gate_dst (N := 1) rfl ?_); (try (refine gate_guard (by rfl) ?_; dsimp only)); refine box_event ?hg (N := 1) ?hd (cs := #[.slice A0_0 l0_0.length c0_0, .slice A0_1 l0_1.length c0_1]) (t := 50) ?hr ?_; (case hd => rfl); (case hg => rfl); (case hr => first | (go_simp; done) | (go_simp; rfl)); intro gb101 hg w57 hbox hb; have BK101 := am (hbox); have GW101 := am ((by rw [hg]; exact (below_size (by repeat (first | (with_reducible first | exact HB.out | apply lA | apply lN | apply lD) | exact HB.out))) : w.heap.size ≤ gb101)); have GE101 := am ((by rw [hg]; exact (below_size (by repeat (first | (with_reducible first | exact HB.out | apply lA | apply lN | apply lD) | exact HB.out))) : w.heap.size ≤ gb101)); replace HB := am (below_step (by repeat (first | (with_reducible first | exact HB.out | apply lA | apply lN | apply lD) | exact HB.out)) hb); clear hb hbox hg) | (go_at_call 27; (with_reducible refine (lambrequinlaw11_shown.calls k  true _ A2.out).mono ?_); rintro e w58 ⟨rfl, hb⟩; replace BK101 := am (blk_below (g := gb101) (o := .cells #[.slice A0_0 l0_0.length c0_0, .slice A0_1 l0_1.length c0_1] 50 (0, 0)) (by (with_reducible repeat (first | refine bN ?_ _ | refine bD ?_ | refine bA ?_ _)); exact BK101.out) hb); replace HB := am (below_step (by repeat (first | (with_reducible first | exact HB.out | apply lA | apply lN | apply lD | refine lS ?_ GE101.out) | exact HB.out)) hb); (try clear hb); (try clear hb2); (try clear hk); (try clear hi); have hcz59_0 : w58.cell? ⟨gb101, 0, none⟩ = some (.slice A0_0 l0_0.length c0_0) := (blk_cell BK101.out 0).trans rfl; have hcz59_1 : w58.cell? ⟨gb101, 1, none⟩ = some (.slice A0_1 l0_1.length c0_1) := (blk_cell BK101.out 1).trans rfl; have hfz59_0 := blk_frozen BK101.out 0; have hfz59_1 := blk_frozen BK101.out 1) | (go_at_call 28; (with_reducible refine (lambrequinlaw11_few.calls k _ _ l0_0 _ _ l0_1 true _ ?side1 ?side2 ?side3 ?side4 A3.out).mono ?_); (case side1 => repeat (first | exact (Kd.C_below HR0_0.out HB.out) | (with_reducible refine Kd.C_alloc ?_ _) | (with_reducible refine Kd.C_drewN ?_ _) | (with_reducible refine Kd.C_drew ?_))); (case side2 => exact HC0_0.out); (case side3 => repeat (first | exact (Kd.C_below HR0_1.out HB.out) | (with_reducible refine Kd.C_alloc ?_ _) | (with_reducible refine Kd.C_drewN ?_ _) | (with_reducible refine Kd.C_drew ?_))); (case side4 => exact HC0_1.out); rintro e w60 ⟨rfl, hb⟩; replace BK101 := am (blk_below (g := gb101) (o := .cells #[.slice A0_0 l0_0.length c0_0, .slice A0_1 l0_1.length c0_1] 50 (0, 0)) (by (with_reducible repeat (first | refine bN ?_ _ | refine bD ?_ | refine bA ?_ _)); exact BK101.out) hb); replace HB := am (below_step (by repeat (first | (with_reducible first | exact HB.out | apply lA | apply lN | apply lD | refine lS ?_ GE101.out) | exact HB.out)) hb); (try clear hb); (try clear hb2); (try clear hk); (try clear hi); have hcz61_0 : w60.cell? ⟨gb101, 0, none⟩ = some (.slice A0_0 l0_0.length c0_0) := (blk_cell BK101.out 0).trans rfl; have hcz61_1 : w60.cell? ⟨gb101, 1, none⟩ = some (.slice A0_1 l0_1.length c0_1) := (blk_cell BK101.out 1).trans rfl; have hfz61_0 := blk_frozen BK101.out 0; have hfz61_1 := blk_frozen BK101.out 1) | (go_at_call 29; (with_reducible refine (strata_Of.calls k _ _ l0_0 _ _ l0_1 t104 t107 t110 _ ?side1 ?side2 ?side3 ?side4 A5.out).mono ?_); (case side1 => repeat (first | exact (Kd.C_below HR0_0.out HB.out) | (with_reducible refine Kd.C_alloc ?_ _) | (with_reducible refine Kd.C_drewN ?_ _) | (with_reducible refine Kd.C_drew ?_))); (case side2 => exact HC0_0.out); (case side3 => repeat (first | exact (Kd.C_below HR0_1.out HB.out) | (with_reducible refine Kd.C_alloc ?_ _) | (with_reducible refine Kd.C_drewN ?_ _) | (with_reducible refine Kd.C_drew ?_))); (case side4 => exact HC0_1.out); rintro e w62 ⟨v105, v108, rfl, ho0, ho1, hb⟩; have HO106 := am (Kd.R_lower ho0 (below_size (by repeat (first | (with_reducible first | exact HB.out | apply lA | apply lN | apply lD | refine lS ?_ GE101.out) | exact HB.out)))); have HO109 := am (Kd.R_lower ho1 (below_size (by repeat (first | (with_reducible first | exact HB.out | apply lA | apply lN | apply lD | refine lS ?_ GE101.out) | exact HB.out)))); replace BK101 := am (blk_below (g := gb101) (o := .cells #[.slice A0_0 l0_0.length c0_0, .slice A0_1 l0_1.length c0_1] 50 (0, 0)) (by (with_reducible repeat (first | refine bN ?_ _ | refine bD ?_ | refine bA ?_ _)); exact BK101.out) hb); replace HB := am (below_step (by repeat (first | (with_reducible first | exact HB.out | apply lA | apply lN | apply lD | refine lS ?_ GE101.out) | exact HB.out)) hb); (try clear hb); (try clear hb2); (try clear hk); (try clear hi); (try clear ho0); (try clear ho1); obtain ⟨Ao63, co63, eo63⟩ := Kd.R_slice HO106.out; subst eo63)); try go_wp2_with (first | ((with_reducible refine gate_dst (N := 1) rfl ?_); (try (refine gate_guard (by rfl) ?_; dsimp only)); refine box_event ?hg (N := 1) ?hd (cs := #[.slice A0_0 l0_0.length c0_0, .slice A0_1 l0_1.length c0_1]) (t := 50) ?hr ?_; (case hd => rfl); (case hg => rfl); (case hr => first | (go_simp; done) | (go_simp; rfl)); intro gb101 hg w57 hbox hb; have BK101 := am (hbox); have GW101 := am ((by rw [hg]; exact (below_size (by repeat (first | (with_reducible first | exact HB.out | apply lA | apply lN | apply lD) | exact HB.out))) : w.heap.size ≤ gb101)); have GE101 := am ((by rw [hg]; exact (below_size (by repeat (first | (with_reducible first | exact HB.out | apply lA | apply lN | apply lD) | exact HB.out))) : w.heap.size ≤ gb101)); replace HB := am (below_step (by repeat (first | (with_reducible first | exact HB.out | apply lA | apply lN | apply lD) | exact HB.out)) hb); clear hb hbox hg) | (go_at_call 27; (with_reducible refine (lambrequinlaw11_shown.calls k  true _ A2.out).mono ?_); rintro e w58 ⟨rfl, hb⟩; replace BK101 := am (blk_below (g := gb101) (o := .cells #[.slice A0_0 l0_0.length c0_0, .slice A0_1 l0_1.length c0_1] 50 (0, 0)) (by (with_reducible repeat (first | refine bN ?_ _ | refine bD ?_ | refine bA ?_ _)); exact BK101.out) hb); replace HB := am (below_step (by repeat (first | (with_reducible first | exact HB.out | apply lA | apply lN | apply lD | refine lS ?_ GE101.out) | exact HB.out)) hb); (try clear hb); (try clear hb2); (try clear hk); (try clear hi); have hcz59_0 : w58.cell? ⟨gb101, 0, none⟩ = some (.slice A0_0 l0_0.length c0_0) := (blk_cell BK101.out 0).trans rfl; have hcz59_1 : w58.cell? ⟨gb101, 1, none⟩ = some (.slice A0_1 l0_1.length c0_1) := (blk_cell BK101.out 1).trans rfl; have hfz59_0 := blk_frozen BK101.out 0; have hfz59_1 := blk_frozen BK101.out 1) | (go_at_call 28; (with_reducible refine (lambrequinlaw11_few.calls k _ _ l0_0 _ _ l0_1 true _ ?side1 ?side2 ?side3 ?side4 A3.out).mono ?_); (case side1 => repeat (first | exact (Kd.C_below HR0_0.out HB.out) | (with_reducible refine Kd.C_alloc ?_ _) | (with_reducible refine Kd.C_drewN ?_ _) | (with_reducible refine Kd.C_drew ?_))); (case side2 => exact HC0_0.out); (case side3 => repeat (first | exact (Kd.C_below HR0_1.out HB.out) | (with_reducible refine Kd.C_alloc ?_ _) | (with_reducible refine Kd.C_drewN ?_ _) | (with_reducible refine Kd.C_drew ?_))); (case side4 => exact HC0_1.out); rintro e w60 ⟨rfl, hb⟩; replace BK101 := am (blk_below (g := gb101) (o := .cells #[.slice A0_0 l0_0.length c0_0, .slice A0_1 l0_1.length c0_1] 50 (0, 0)) (by (with_reducible repeat (first | refine bN ?_ _ | refine bD ?_ | refine bA ?_ _)); exact BK101.out) hb); replace HB := am (below_step (by repeat (first | (with_reducible first | exact HB.out | apply lA | apply lN | apply lD | refine lS ?_ GE101.out) | exact HB.out)) hb); (try clear hb); (try clear hb2); (try clear hk); (try clear hi); have hcz61_0 : w60.cell? ⟨gb101, 0, none⟩ = some (.slice A0_0 l0_0.length c0_0) := (blk_cell BK101.out 0).trans rfl; have hcz61_1 : w60.cell? ⟨gb101, 1, none⟩ = some (.slice A0_1 l0_1.length c0_1) := (blk_cell BK101.out 1).trans rfl; have hfz61_0 := blk_frozen BK101.out 0; have hfz61_1 := blk_frozen BK101.out 1) | (go_at_call 29; (with_reducible refine (strata_Of.calls k _ _ l0_0 _ _ l0_1 t104 t107 t110 _ ?side1 ?side2 ?side3 ?side4 A5.out).mono ?_); (case side1 => repeat (first | exact (Kd.C_below HR0_0.out HB.out) | (with_reducible refine Kd.C_alloc ?_ _) | (with_reducible refine Kd.C_drewN ?_ _) | (with_reducible refine Kd.C_drew ?_))); (case side2 => exact HC0_0.out); (case side3 => repeat (first | exact (Kd.C_below HR0_1.out HB.out) | (with_reducible refine Kd.C_alloc ?_ _) | (with_reducible refine Kd.C_drewN ?_ _) | (with_reducible refine Kd.C_drew ?_))); (case side4 => exact HC0_1.out); rintro e w62 ⟨v105, v108, rfl, ho0, ho1, hb⟩; have HO106 := am (Kd.R_lower ho0 (below_size (by repeat (first | (with_reducible first | exact HB.out | apply lA | apply lN | apply lD | refine lS ?_ GE101.out) | exact HB.out)))); have HO109 := am (Kd.R_lower ho1 (below_size (by repeat (first | (with_reducible first | exact HB.out | apply lA | apply lN | apply lD | refine lS ?_ GE101.out) | exact HB.out)))); replace BK101 := am (blk_below (g := gb101) (o := .cells #[.slice A0_0 l0_0.length c0_0, .slice A0_1 l0_1.length c0_1] 50 (0, 0)) (by (with_reducible repeat (first | refine bN ?_ _ | refine bD ?_ | refine bA ?_ _)); exact BK101.out) hb); replace HB := am (below_step (by repeat (first | (with_reducible first | exact HB.out | apply lA | apply lN | apply lD | refine lS ?_ GE101.out) | exact HB.out)) hb); (try clear hb); (try clear hb2); (try clear hk); (try clear hi); (try clear ho0); (try clear ho1); obtain ⟨Ao63, co63, eo63⟩ := Kd.R_slice HO106.out; subst eo63)))
    go_ret
    exact ⟨by first | rfl | (simp [errW_none, errW_some] <;> rfl) | (simp [*, errW_none, errW_some] <;> rfl), by repeat (first | (with_reducible first | exact HB.out | apply lA | apply lN | apply lD | refine lS ?_ GE101.out) | exact HB.out)⟩
   ·replace c56 := Bool.eq_false_iff.mpr c56
    subst c56
    have H1 : (some false) = some r := by rw [if_neg (show ¬ (false = true) by decide)] at H; exact H
    clear H
    have H := H1
    clear H1
    obtain rfl := Option.some.inj H
    go_enter Try.func10, Try.ntmps10
    go_wp2_with (first | ((with_reducible refine gate_dst (N := 1) rfl ?_); (try (refine gate_guard (by rfl) ?_; dsimp only)); refine box_event ?hg (N := 1) ?hd (cs := #[.slice A0_0 l0_0.length c0_0, .slice A0_1 l0_1.length c0_1]) (t := 50) ?hr ?_; (case hd => rfl); (case hg => rfl); (case hr => first | (go_simp; done) | (go_simp; rfl)); intro gb101 hg w64 hbox hb; have BK101 := am (hbox); have GW101 := am ((by rw [hg]; exact (below_size (by repeat (first | (with_reducible first | exact HB.out | apply lA | apply lN | apply lD) | exact HB.out))) : w.heap.size ≤ gb101)); have GE101 := am ((by rw [hg]; exact (below_size (by repeat (first | (with_reducible first | exact HB.out | apply lA | apply lN | apply lD) | exact HB.out))) : w.heap.size ≤ gb101)); replace HB := am (below_step (by repeat (first | (with_reducible first | exact HB.out | apply lA | apply lN | apply lD) | exact HB.out)) hb); clear hb hbox hg) | (go_at_call 27; (with_reducible refine (lambrequinlaw11_shown.calls k  false _ A2.out).mono ?_); rintro e w65 ⟨rfl, hb⟩; replace BK101 := am (blk_below (g := gb101) (o := .cells #[.slice A0_0 l0_0.length c0_0, .slice A0_1 l0_1.length c0_1] 50 (0, 0)) (by (with_reducible repeat (first | refine bN ?_ _ | refine bD ?_ | refine bA ?_ _)); exact BK101.out) hb); replace HB := am (below_step (by repeat (first | (with_reducible first | exact HB.out | apply lA | apply lN | apply lD | refine lS ?_ GE101.out) | exact HB.out)) hb); (try clear hb); (try clear hb2); (try clear hk); (try clear hi); have hcz66_0 : w65.cell? ⟨gb101, 0, none⟩ = some (.slice A0_0 l0_0.length c0_0) := (blk_cell BK101.out 0).trans rfl; have hcz66_1 : w65.cell? ⟨gb101, 1, none⟩ = some (.slice A0_1 l0_1.length c0_1) := (blk_cell BK101.out 1).trans rfl; have hfz66_0 := blk_frozen BK101.out 0; have hfz66_1 := blk_frozen BK101.out 1) | (go_at_call 28; (with_reducible refine (lambrequinlaw11_few.calls k _ _ l0_0 _ _ l0_1 true _ ?side1 ?side2 ?side3 ?side4 A3.out).mono ?_); (case side1 => repeat (first | exact (Kd.C_below HR0_0.out HB.out) | (with_reducible refine Kd.C_alloc ?_ _) | (with_reducible refine Kd.C_drewN ?_ _) | (with_reducible refine Kd.C_drew ?_))); (case side2 => exact HC0_0.out); (case side3 => repeat (first | exact (Kd.C_below HR0_1.out HB.out) | (with_reducible refine Kd.C_alloc ?_ _) | (with_reducible refine Kd.C_drewN ?_ _) | (with_reducible refine Kd.C_drew ?_))); (case side4 => exact HC0_1.out); rintro e w67 ⟨rfl, hb⟩; replace BK101 := am (blk_below (g := gb101) (o := .cells #[.slice A0_0 l0_0.length c0_0, .slice A0_1 l0_1.length c0_1] 50 (0, 0)) (by (with_reducible repeat (first | refine bN ?_ _ | refine bD ?_ | refine bA ?_ _)); exact BK101.out) hb); replace HB := am (below_step (by repeat (first | (with_reducible first | exact HB.out | apply lA | apply lN | apply lD | refine lS ?_ GE101.out) | exact HB.out)) hb); (try clear hb); (try clear hb2); (try clear hk); (try clear hi); have hcz68_0 : w67.cell? ⟨gb101, 0, none⟩ = some (.slice A0_0 l0_0.length c0_0) := (blk_cell BK101.out 0).trans rfl; have hcz68_1 : w67.cell? ⟨gb101, 1, none⟩ = some (.slice A0_1 l0_1.length c0_1) := (blk_cell BK101.out 1).trans rfl; have hfz68_0 := blk_frozen BK101.out 0; have hfz68_1 := blk_frozen BK101.out 1) | (go_at_call 29; (with_reducible refine (strata_Of.calls k _ _ l0_0 _ _ l0_1 t104 t107 t110 _ ?side1 ?side2 ?side3 ?side4 A5.out).mono ?_); (case side1 => repeat (first | exact (Kd.C_below HR0_0.out HB.out) | (with_reducible refine Kd.C_alloc ?_ _) | (with_reducible refine Kd.C_drewN ?_ _) | (with_reducible refine Kd.C_drew ?_))); (case side2 => exact HC0_0.out); (case side3 => repeat (first | exact (Kd.C_below HR0_1.out HB.out) | (with_reducible refine Kd.C_alloc ?_ _) | (with_reducible refine Kd.C_drewN ?_ _) | (with_reducible refine Kd.C_drew ?_))); (case side4 => exact HC0_1.out); rintro e w69 ⟨v105, v108, rfl, ho0, ho1, hb⟩; have HO106 := am (Kd.R_lower ho0 (below_size (by repeat (first | (with_reducible first | exact HB.out | apply lA | apply lN | apply lD | refine lS ?_ GE101.out) | exact HB.out)))); have HO109 := am (Kd.R_lower ho1 (below_size (by repeat (first | (with_reducible first | exact HB.out | apply lA | apply lN | apply lD | refine lS ?_ GE101.out) | exact HB.out)))); replace BK101 := am (blk_below (g := gb101) (o := .cells #[.slice A0_0 l0_0.length c0_0, .slice A0_1 l0_1.length c0_1] 50 (0, 0)) (by (with_reducible repeat (first | refine bN ?_ _ | refine bD ?_ | refine bA ?_ _)); exact BK101.out) hb); replace HB := am (below_step (by repeat (first | (with_reducible first | exact HB.out | apply lA | apply lN | apply lD | refine lS ?_ GE101.out) | exact HB.out)) hb); (try clear hb); (try clear hb2); (try clear hk); (try clear hi); (try clear ho0); (try clear ho1)))
    repeat (go_quiet (first | ((with_reducible refine gate_dst (N := 1) rfl ?_); (try (refine gate_guard (by rfl) ?_; dsimp only)); refine box_event ?hg (N := 1) ?hd (cs := #[.slice A0_0 l0_0.length c0_0, .slice A0_1 l0_1.length c0_1]) (t := 50) ?hr ?_; (case hd => rfl); (case hg => rfl); (case hr => first | (go_simp; done) | (go_simp; rfl)); intro gb101 hg w64 hbox hb; have BK101 := am (hbox); have GW101 := am ((by rw [hg]; exact (below_size (by repeat (first | (with_reducible first | exact HB.out | apply lA | apply lN | apply lD) | exact HB.out))) : w.heap.size ≤ gb101)); have GE101 := am ((by rw [hg]; exact (below_size (by repeat (first | (with_reducible first | exact HB.out | apply lA | apply lN | apply lD) | exact HB.out))) : w.heap.size ≤ gb101)); replace HB := am (below_step (by repeat (first | (with_reducible first | exact HB.out | apply lA | apply lN | apply lD) | exact HB.out)) hb); clear hb hbox hg) | (go_at_call 27; (with_reducible refine (lambrequinlaw11_shown.calls k  false _ A2.out).mono ?_); rintro e w65 ⟨rfl, hb⟩; replace BK101 := am (blk_below (g := gb101) (o := .cells #[.slice A0_0 l0_0.length c0_0, .slice A0_1 l0_1.length c0_1] 50 (0, 0)) (by (with_reducible repeat (first | refine bN ?_ _ | refine bD ?_ | refine bA ?_ _)); exact BK101.out) hb); replace HB := am (below_step (by repeat (first | (with_reducible first | exact HB.out | apply lA | apply lN | apply lD | refine lS ?_ GE101.out) | exact HB.out)) hb); (try clear hb); (try clear hb2); (try clear hk); (try clear hi); have hcz66_0 : w65.cell? ⟨gb101, 0, none⟩ = some (.slice A0_0 l0_0.length c0_0) := (blk_cell BK101.out 0).trans rfl; have hcz66_1 : w65.cell? ⟨gb101, 1, none⟩ = some (.slice A0_1 l0_1.length c0_1) := (blk_cell BK101.out 1).trans rfl; have hfz66_0 := blk_frozen BK101.out 0; have hfz66_1 := blk_frozen BK101.out 1) | (go_at_call 28; (with_reducible refine (lambrequinlaw11_few.calls k _ _ l0_0 _ _ l0_1 true _ ?side1 ?side2 ?side3 ?side4 A3.out).mono ?_); (case side1 => repeat (first | exact (Kd.C_below HR0_0.out HB.out) | (with_reducible refine Kd.C_alloc ?_ _) | (with_reducible refine Kd.C_drewN ?_ _) | (with_reducible refine Kd.C_drew ?_))); (case side2 => exact HC0_0.out); (case side3 => repeat (first | exact (Kd.C_below HR0_1.out HB.out) | (with_reducible refine Kd.C_alloc ?_ _) | (with_reducible refine Kd.C_drewN ?_ _) | (with_reducible refine Kd.C_drew ?_))); (case side4 => exact HC0_1.out); rintro e w67 ⟨rfl, hb⟩; replace BK101 := am (blk_below (g := gb101) (o := .cells #[.slice A0_0 l0_0.length c0_0, .slice A0_1 l0_1.length c0_1] 50 (0, 0)) (by (with_reducible repeat (first | refine bN ?_ _ | refine bD ?_ | refine bA ?_ _)); exact BK101.out) hb); replace HB := am (below_step (by repeat (first | (with_reducible first | exact HB.out | apply lA | apply lN | apply lD | refine lS ?_ GE101.out) | exact HB.out)) hb); (try clear hb); (try clear hb2); (try clear hk); (try clear hi); have hcz68_0 : w67.cell? ⟨gb101, 0, none⟩ = some (.slice A0_0 l0_0.length c0_0) := (blk_cell BK101.out 0).trans rfl; have hcz68_1 : w67.cell? ⟨gb101, 1, none⟩ = some (.slice A0_1 l0_1.length c0_1) := (blk_cell BK101.out 1).trans rfl; have hfz68_0 := blk_frozen BK101.out 0; have hfz68_1 := blk_frozen BK101.out 1) | (go_at_call 29; (with_reducible refine (strata_Of.calls k _ _ l0_0 _ _ l0_1 t104 t107 t110 _ ?side1 ?side2 ?side3 ?side4 A5.out).mono ?_); (case side1 => repeat (first | exact (Kd.C_below HR0_0.out HB.out) | (with_reducible refine Kd.C_alloc ?_ _) | (with_reducible refine Kd.C_drewN ?_ _) | (with_reducible refine Kd.C_drew ?_))); (case side2 => exact HC0_0.out); (case side3 => repeat (first | exact (Kd.C_below HR0_1.out HB.out) | (with_reducible refine Kd.C_alloc ?_ _) | (with_reducible refine Kd.C_drewN ?_ _) | (with_reducible refine Kd.C_drew ?_))); (case side4 => exact HC0_1.out); rintro e w69 ⟨v105, v108, rfl, ho0, ho1, hb⟩; have HO106 := am (Kd.R_lower ho0 (below_size (by repeat (first | (with_reducible first | exact HB.out | apply lA | apply lN | apply lD | refine lS ?_ GE101.out) | exact HB.out)))); have HO109 := am (Kd.R_lower ho1 (below_size (by repeat (first | (with_reducible first | exact HB.out | apply lA | apply lN | apply lD | refine lS ?_ GE101.out) | exact HB.out)))); replace BK101 := am (blk_below (g := gb101) (o := .cells #[.slice A0_0 l0_0.length c0_0, .slice A0_1 l0_1.length c0_1] 50 (0, 0)) (by (with_reducible repeat (first | refine bN ?_ _ | refine bD ?_ | refine bA ?_ _)); exact BK101.out) hb); replace HB := am (below_step (by repeat (first | (with_reducible first | exact HB.out | apply lA | apply lN | apply lD | refine lS ?_ GE101.out) | exact HB.out)) hb); (try clear hb); (try clear hb2); (try clear hk); (try clear hi); (try clear ho0); (try clear ho1))); try go_wp2_with (first | ((with_reducible refine gate_dst (N := 1) rfl ?_); (try (refine gate_guard (by rfl) ?_; dsimp only)); refine box_event ?hg (N := 1) ?hd (cs := #[.slice A0_0 l0_0.length c0_0, .slice A0_1 l0_1.length c0_1]) (t := 50) ?hr ?_; (case hd => rfl); (case hg => rfl); (case hr => first | (go_simp; done) | (go_simp; rfl)); intro gb101 hg w64 hbox hb; have BK101 := am (hbox); have GW101 := am ((by rw [hg]; exact (below_size (by repeat (first | (with_reducible first | exact HB.out | apply lA | apply lN | apply lD) | exact HB.out))) : w.heap.size ≤ gb101)); have GE101 := am ((by rw [hg]; exact (below_size (by repeat (first | (with_reducible first | exact HB.out | apply lA | apply lN | apply lD) | exact HB.out))) : w.heap.size ≤ gb101)); replace HB := am (below_step (by repeat (first | (with_reducible first | exact HB.out | apply lA | apply lN | apply lD) | exact HB.out)) hb); clear hb hbox hg) | (go_at_call 27; (with_reducible refine (lambrequinlaw11_shown.calls k  false _ A2.out).mono ?_); rintro e w65 ⟨rfl, hb⟩; replace BK101 := am (blk_below (g := gb101) (o := .cells #[.slice A0_0 l0_0.length c0_0, .slice A0_1 l0_1.length c0_1] 50 (0, 0)) (by (with_reducible repeat (first | refine bN ?_ _ | refine bD ?_ | refine bA ?_ _)); exact BK101.out) hb); replace HB := am (below_step (by repeat (first | (with_reducible first | exact HB.out | apply lA | apply lN | apply lD | refine lS ?_ GE101.out) | exact HB.out)) hb); (try clear hb); (try clear hb2); (try clear hk); (try clear hi); have hcz66_0 : w65.cell? ⟨gb101, 0, none⟩ = some (.slice A0_0 l0_0.length c0_0) := (blk_cell BK101.out 0).trans rfl; have hcz66_1 : w65.cell? ⟨gb101, 1, none⟩ = some (.slice A0_1 l0_1.length c0_1) := (blk_cell BK101.out 1).trans rfl; have hfz66_0 := blk_frozen BK101.out 0; have hfz66_1 := blk_frozen BK101.out 1) | (go_at_call 28; (with_reducible refine (lambrequinlaw11_few.calls k _ _ l0_0 _ _ l0_1 true _ ?side1 ?side2 ?side3 ?side4 A3.out).mono ?_); (case side1 => repeat (first | exact (Kd.C_below HR0_0.out HB.out) | (with_reducible refine Kd.C_alloc ?_ _) | (with_reducible refine Kd.C_drewN ?_ _) | (with_reducible refine Kd.C_drew ?_))); (case side2 => exact HC0_0.out); (case side3 => repeat (first | exact (Kd.C_below HR0_1.out HB.out) | (with_reducible refine Kd.C_alloc ?_ _) | (with_reducible refine Kd.C_drewN ?_ _) | (with_reducible refine Kd.C_drew ?_))); (case side4 => exact HC0_1.out); rintro e w67 ⟨rfl, hb⟩; replace BK101 := am (blk_below (g := gb101) (o := .cells #[.slice A0_0 l0_0.length c0_0, .slice A0_1 l0_1.length c0_1] 50 (0, 0)) (by (with_reducible repeat (first | refine bN ?_ _ | refine bD ?_ | refine bA ?_ _)); exact BK101.out) hb); replace HB := am (below_step (by repeat (first | (with_reducible first | exact HB.out | apply lA | apply lN | apply lD | refine lS ?_ GE101.out) | exact HB.out)) hb); (try clear hb); (try clear hb2); (try clear hk); (try clear hi); have hcz68_0 : w67.cell? ⟨gb101, 0, none⟩ = some (.slice A0_0 l0_0.length c0_0) := (blk_cell BK101.out 0).trans rfl; have hcz68_1 : w67.cell? ⟨gb101, 1, none⟩ = some (.slice A0_1 l0_1.length c0_1) := (blk_cell BK101.out 1).trans rfl; have hfz68_0 := blk_frozen BK101.out 0; have hfz68_1 := blk_frozen BK101.out 1) | (go_at_call 29; (with_reducible refine (strata_Of.calls k _ _ l0_0 _ _ l0_1 t104 t107 t110 _ ?side1 ?side2 ?side3 ?side4 A5.out).mono ?_); (case side1 => repeat (first | exact (Kd.C_below HR0_0.out HB.out) | (with_reducible refine Kd.C_alloc ?_ _) | (with_reducible refine Kd.C_drewN ?_ _) | (with_reducible refine Kd.C_drew ?_))); (case side2 => exact HC0_0.out); (case side3 => repeat (first | exact (Kd.C_below HR0_1.out HB.out) | (with_reducible refine Kd.C_alloc ?_ _) | (with_reducible refine Kd.C_drewN ?_ _) | (with_reducible refine Kd.C_drew ?_))); (case side4 => exact HC0_1.out); rintro e w69 ⟨v105, v108, rfl, ho0, ho1, hb⟩; have HO106 := am (Kd.R_lower ho0 (below_size (by repeat (first | (with_reducible first | exact HB.out | apply lA | apply lN | apply lD | refine lS ?_ GE101.out) | exact HB.out)))); have HO109 := am (Kd.R_lower ho1 (below_size (by repeat (first | (with_reducible first | exact HB.out | apply lA | apply lN | apply lD | refine lS ?_ GE101.out) | exact HB.out)))); replace BK101 := am (blk_below (g := gb101) (o := .cells #[.slice A0_0 l0_0.length c0_0, .slice A0_1 l0_1.length c0_1] 50 (0, 0)) (by (with_reducible repeat (first | refine bN ?_ _ | refine bD ?_ | refine bA ?_ _)); exact BK101.out) hb); replace HB := am (below_step (by repeat (first | (with_reducible first | exact HB.out | apply lA | apply lN | apply lD | refine lS ?_ GE101.out) | exact HB.out)) hb); (try clear hb); (try clear hb2); (try clear hk); (try clear hi); (try clear ho0); (try clear ho1))))
    go_ret
    exact ⟨by first | rfl | (simp [errW_none, errW_some] <;> rfl) | (simp [*, errW_none, errW_some] <;> rfl), by repeat (first | (with_reducible first | exact HB.out | apply lA | apply lN | apply lD | refine lS ?_ GE101.out) | exact HB.out)⟩
 ·replace c4 := Bool.eq_false_iff.mpr c4
  subst c4
  have H1 : (some t102) = some r := by rw [if_neg (show ¬ (false = true) by decide)] at H; exact H
  clear H
  have H := H1
  clear H1
  obtain rfl := Option.some.inj H
  go_enter Try.func10, Try.ntmps10
  go_wp2_with (first | ((with_reducible refine gate_dst (N := 1) rfl ?_); (try (refine gate_guard (by rfl) ?_; dsimp only)); refine box_event ?hg (N := 1) ?hd (cs := #[.slice A0_0 l0_0.length c0_0, .slice A0_1 l0_1.length c0_1]) (t := 50) ?hr ?_; (case hd => rfl); (case hg => rfl); (case hr => first | (go_simp; done) | (go_simp; rfl)); intro gb101 hg w70 hbox hb; have BK101 := am (hbox); have GW101 := am ((by rw [hg]; exact (below_size (by repeat (first | (with_reducible first | exact HB.out | apply lA | apply lN | apply lD) | exact HB.out))) : w.heap.size ≤ gb101)); have GE101 := am ((by rw [hg]; exact (below_size (by repeat (first | (with_reducible first | exact HB.out | apply lA | apply lN | apply lD) | exact HB.out))) : w.heap.size ≤ gb101)); replace HB := am (below_step (by repeat (first | (with_reducible first | exact HB.out | apply lA | apply lN | apply lD) | exact HB.out)) hb); clear hb hbox hg) | (go_at_call 27; (with_reducible refine (lambrequinlaw11_shown.calls k  t102 _ A2.out).mono ?_); rintro e w71 ⟨rfl, hb⟩; replace BK101 := am (blk_below (g := gb101) (o := .cells #[.slice A0_0 l0_0.length c0_0, .slice A0_1 l0_1.length c0_1] 50 (0, 0)) (by (with_reducible repeat (first | refine bN ?_ _ | refine bD ?_ | refine bA ?_ _)); exact BK101.out) hb); replace HB := am (below_step (by repeat (first | (with_reducible first | exact HB.out | apply lA | apply lN | apply lD | refine lS ?_ GE101.out) | exact HB.out)) hb); (try clear hb); (try clear hb2); (try clear hk); (try clear hi); have hcz72_0 : w71.cell? ⟨gb101, 0, none⟩ = some (.slice A0_0 l0_0.length c0_0) := (blk_cell BK101.out 0).trans rfl; have hcz72_1 : w71.cell? ⟨gb101, 1, none⟩ = some (.slice A0_1 l0_1.length c0_1) := (blk_cell BK101.out 1).trans rfl; have hfz72_0 := blk_frozen BK101.out 0; have hfz72_1 := blk_frozen BK101.out 1) | (go_at_call 28; (with_reducible refine (lambrequinlaw11_few.calls k _ _ l0_0 _ _ l0_1 false _ ?side1 ?side2 ?side3 ?side4 A3.out).mono ?_); (case side1 => repeat (first | exact (Kd.C_below HR0_0.out HB.out) | (with_reducible refine Kd.C_alloc ?_ _) | (with_reducible refine Kd.C_drewN ?_ _) | (with_reducible refine Kd.C_drew ?_))); (case side2 => exact HC0_0.out); (case side3 => repeat (first | exact (Kd.C_below HR0_1.out HB.out) | (with_reducible refine Kd.C_alloc ?_ _) | (with_reducible refine Kd.C_drewN ?_ _) | (with_reducible refine Kd.C_drew ?_))); (case side4 => exact HC0_1.out); rintro e w73 ⟨rfl, hb⟩; replace BK101 := am (blk_below (g := gb101) (o := .cells #[.slice A0_0 l0_0.length c0_0, .slice A0_1 l0_1.length c0_1] 50 (0, 0)) (by (with_reducible repeat (first | refine bN ?_ _ | refine bD ?_ | refine bA ?_ _)); exact BK101.out) hb); replace HB := am (below_step (by repeat (first | (with_reducible first | exact HB.out | apply lA | apply lN | apply lD | refine lS ?_ GE101.out) | exact HB.out)) hb); (try clear hb); (try clear hb2); (try clear hk); (try clear hi)))
  repeat (go_quiet (first | ((with_reducible refine gate_dst (N := 1) rfl ?_); (try (refine gate_guard (by rfl) ?_; dsimp only)); refine box_event ?hg (N := 1) ?hd (cs := #[.slice A0_0 l0_0.length c0_0, .slice A0_1 l0_1.length c0_1]) (t := 50) ?hr ?_; (case hd => rfl); (case hg => rfl); (case hr => first | (go_simp; done) | (go_simp; rfl)); intro gb101 hg w70 hbox hb; have BK101 := am (hbox); have GW101 := am ((by rw [hg]; exact (below_size (by repeat (first | (with_reducible first | exact HB.out | apply lA | apply lN | apply lD) | exact HB.out))) : w.heap.size ≤ gb101)); have GE101 := am ((by rw [hg]; exact (below_size (by repeat (first | (with_reducible first | exact HB.out | apply lA | apply lN | apply lD) | exact HB.out))) : w.heap.size ≤ gb101)); replace HB := am (below_step (by repeat (first | (with_reducible first | exact HB.out | apply lA | apply lN | apply lD) | exact HB.out)) hb); clear hb hbox hg) | (go_at_call 27; (with_reducible refine (lambrequinlaw11_shown.calls k  t102 _ A2.out).mono ?_); rintro e w71 ⟨rfl, hb⟩; replace BK101 := am (blk_below (g := gb101) (o := .cells #[.slice A0_0 l0_0.length c0_0, .slice A0_1 l0_1.length c0_1] 50 (0, 0)) (by (with_reducible repeat (first | refine bN ?_ _ | refine bD ?_ | refine bA ?_ _)); exact BK101.out) hb); replace HB := am (below_step (by repeat (first | (with_reducible first | exact HB.out | apply lA | apply lN | apply lD | refine lS ?_ GE101.out) | exact HB.out)) hb); (try clear hb); (try clear hb2); (try clear hk); (try clear hi); have hcz72_0 : w71.cell? ⟨gb101, 0, none⟩ = some (.slice A0_0 l0_0.length c0_0) := (blk_cell BK101.out 0).trans rfl; have hcz72_1 : w71.cell? ⟨gb101, 1, none⟩ = some (.slice A0_1 l0_1.length c0_1) := (blk_cell BK101.out 1).trans rfl; have hfz72_0 := blk_frozen BK101.out 0; have hfz72_1 := blk_frozen BK101.out 1) | (go_at_call 28; (with_reducible refine (lambrequinlaw11_few.calls k _ _ l0_0 _ _ l0_1 false _ ?side1 ?side2 ?side3 ?side4 A3.out).mono ?_); (case side1 => repeat (first | exact (Kd.C_below HR0_0.out HB.out) | (with_reducible refine Kd.C_alloc ?_ _) | (with_reducible refine Kd.C_drewN ?_ _) | (with_reducible refine Kd.C_drew ?_))); (case side2 => exact HC0_0.out); (case side3 => repeat (first | exact (Kd.C_below HR0_1.out HB.out) | (with_reducible refine Kd.C_alloc ?_ _) | (with_reducible refine Kd.C_drewN ?_ _) | (with_reducible refine Kd.C_drew ?_))); (case side4 => exact HC0_1.out); rintro e w73 ⟨rfl, hb⟩; replace BK101 := am (blk_below (g := gb101) (o := .cells #[.slice A0_0 l0_0.length c0_0, .slice A0_1 l0_1.length c0_1] 50 (0, 0)) (by (with_reducible repeat (first | refine bN ?_ _ | refine bD ?_ | refine bA ?_ _)); exact BK101.out) hb); replace HB := am (below_step (by repeat (first | (with_reducible first | exact HB.out | apply lA | apply lN | apply lD | refine lS ?_ GE101.out) | exact HB.out)) hb); (try clear hb); (try clear hb2); (try clear hk); (try clear hi))); try go_wp2_with (first | ((with_reducible refine gate_dst (N := 1) rfl ?_); (try (refine gate_guard (by rfl) ?_; dsimp only)); refine box_event ?hg (N := 1) ?hd (cs := #[.slice A0_0 l0_0.length c0_0, .slice A0_1 l0_1.length c0_1]) (t := 50) ?hr ?_; (case hd => rfl); (case hg => rfl); (case hr => first | (go_simp; done) | (go_simp; rfl)); intro gb101 hg w70 hbox hb; have BK101 := am (hbox); have GW101 := am ((by rw [hg]; exact (below_size (by repeat (first | (with_reducible first | exact HB.out | apply lA | apply lN | apply lD) | exact HB.out))) : w.heap.size ≤ gb101)); have GE101 := am ((by rw [hg]; exact (below_size (by repeat (first | (with_reducible first | exact HB.out | apply lA | apply lN | apply lD) | exact HB.out))) : w.heap.size ≤ gb101)); replace HB := am (below_step (by repeat (first | (with_reducible first | exact HB.out | apply lA | apply lN | apply lD) | exact HB.out)) hb); clear hb hbox hg) | (go_at_call 27; (with_reducible refine (lambrequinlaw11_shown.calls k  t102 _ A2.out).mono ?_); rintro e w71 ⟨rfl, hb⟩; replace BK101 := am (blk_below (g := gb101) (o := .cells #[.slice A0_0 l0_0.length c0_0, .slice A0_1 l0_1.length c0_1] 50 (0, 0)) (by (with_reducible repeat (first | refine bN ?_ _ | refine bD ?_ | refine bA ?_ _)); exact BK101.out) hb); replace HB := am (below_step (by repeat (first | (with_reducible first | exact HB.out | apply lA | apply lN | apply lD | refine lS ?_ GE101.out) | exact HB.out)) hb); (try clear hb); (try clear hb2); (try clear hk); (try clear hi); have hcz72_0 : w71.cell? ⟨gb101, 0, none⟩ = some (.slice A0_0 l0_0.length c0_0) := (blk_cell BK101.out 0).trans rfl; have hcz72_1 : w71.cell? ⟨gb101, 1, none⟩ = some (.slice A0_1 l0_1.length c0_1) := (blk_cell BK101.out 1).trans rfl; have hfz72_0 := blk_frozen BK101.out 0; have hfz72_1 := blk_frozen BK101.out 1) | (go_at_call 28; (with_reducible refine (lambrequinlaw11_few.calls k _ _ l0_0 _ _ l0_1 false _ ?side1 ?side2 ?side3 ?side4 A3.out).mono ?_); (case side1 => repeat (first | exact (Kd.C_below HR0_0.out HB.out) | (with_reducible refine Kd.C_alloc ?_ _) | (with_reducible refine Kd.C_drewN ?_ _) | (with_reducible refine Kd.C_drew ?_))); (case side2 => exact HC0_0.out); (case side3 => repeat (first | exact (Kd.C_below HR0_1.out HB.out) | (with_reducible refine Kd.C_alloc ?_ _) | (with_reducible refine Kd.C_drewN ?_ _) | (with_reducible refine Kd.C_drew ?_))); (case side4 => exact HC0_1.out); rintro e w73 ⟨rfl, hb⟩; replace BK101 := am (blk_below (g := gb101) (o := .cells #[.slice A0_0 l0_0.length c0_0, .slice A0_1 l0_1.length c0_1] 50 (0, 0)) (by (with_reducible repeat (first | refine bN ?_ _ | refine bD ?_ | refine bA ?_ _)); exact BK101.out) hb); replace HB := am (below_step (by repeat (first | (with_reducible first | exact HB.out | apply lA | apply lN | apply lD | refine lS ?_ GE101.out) | exact HB.out)) hb); (try clear hb); (try clear hb2); (try clear hk); (try clear hi))))
  go_ret
  exact ⟨by first | rfl | (simp [errW_none, errW_some] <;> rfl) | (simp [*, errW_none, errW_some] <;> rfl), by repeat (first | (with_reducible first | exact HB.out | apply lA | apply lN | apply lD | refine lS ?_ GE101.out) | exact HB.out)⟩
end Go.Proofs.Ytmlhnjonmjmhdaa.H
/- StrataLevels: a predicate's stratum is no lower than that of each on which it depends, and higher, if negatively -/
namespace Go.Proofs.Ytmlhnjonmjmhdaa.H
open Go.RowKit Go.Proofs.YtmlhnjonmjmhdaaW.PrintWords
theorem At_l0 (l : List ByteArray) (s : ByteArray) (hl : l.length ≤ 1000000) : ∀ (d : List ByteArray) (i : Nat), l.drop i = d → Ev (fun k => lambrequinref11_At.l0 k l s (i : Int)) (idxP (fun y => decide (y = s)) d i)
  | [], i, hd => by
    refine Ev.step (fun k => by rw [lambrequinref11_At.l0]) ?_
    exact Ev.neg (drop_end hd) (Ev.now _)
  | y :: d, i, hd => by
    obtain ⟨h1, h2, h3, h4, h5⟩ := drop_more hd (by omega)
    have e : rdOf ByteArray.empty l (i : Int) = y := h3 _
    have next := At_l0 l s hl d (i + 1) h4
    refine Ev.step (fun k => by rw [lambrequinref11_At.l0]) ?_
    rw [e, h5]
    unfold idxP
    refine Ev.pos h1 (Ev.pos h2 ?_)
    by_cases c : y = s
    · rw [if_pos (by simpa using c)]
      exact Ev.pos (by rw [c]) (Ev.now _)
    · rw [if_neg (by simpa using c)]
      exact Ev.neg (fun h => c (lib_ba_eq.1 h)) next
theorem At_ev (l : List ByteArray) (s : ByteArray) (hl : l.length ≤ 1000000) : Ev (fun k => lambrequinref11_At.f k l s) (idxS l s) := by
  unfold lambrequinref11_At.f
  exact At_l0 l s hl l 0 rfl
section
variable {ds : List Decl} {rs : List Rule} {lev : List Int} (hp : (namesP ds rs).length ≤ 1000000) (hrs : rs.length ≤ 1000000) (hb : ∀ r ∈ rs, r.body.length ≤ 1000000) (hlen : lev.length = (namesP ds rs).length) (hle : ∀ e ∈ allE (namesP ds rs) rs, lev.getD e.snd.toNat 0 ≤ lev.getD e.fst.toNat 0) (hlt : ∀ e ∈ negE (namesP ds rs) rs, lev.getD e.snd.toNat 0 < lev.getD e.fst.toNat 0)
include hp hb hlen hle hlt
theorem slev_l1 {x8 : Int} {r : Rule} (hr : r ∈ rs) (next : Ev (fun k => lambrequinlaw11_StrataLevels.l0 k true lev (namesP ds rs) (wrap64 (x8 + 1)) ds rs) true) : ∀ (d : List Liter) (i : Nat), r.body.drop i = d →
    Ev (fun k => lambrequinlaw11_StrataLevels.l1 k true lev (namesP ds rs) x8 (idxS (namesP ds rs) r.head.pred) (i : Int) ds rs r.head.pred r.head.args r.body) true
  | [], i, hd => by
    refine Ev.step (fun k => by rw [lambrequinlaw11_StrataLevels.l1]) ?_
    exact Ev.neg (drop_end hd) next
  | y :: d, i, hd => by
    have hbl := hb r hr
    obtain ⟨h1, h2, h3, h4, h5⟩ := drop_more hd (by omega)
    have e : rd_T71 r.body (i : Int) = y := h3 _
    have hyb : y ∈ r.body := List.mem_of_mem_drop (by rw [hd]; exact List.mem_cons_self)
    have ih := slev_l1 hr next d (i + 1) h4
    rw [← h5] at ih
    refine Ev.step (fun k => by rw [lambrequinlaw11_StrataLevels.l1]) ?_
    rw [e]
    clear h5
    refine Ev.pos h1 (Ev.pos h2 (Ev.bind (At_ev _ _ hp) ?_))
    have use : useB y = true → ∀ x84 : Bool, x84 = false → Ev (fun k => lambrequinlaw11_StrataLevels.j2 k true lev (namesP ds rs) x8 (idxS (namesP ds rs) r.head.pred) (i : Int) (idxS (namesP ds rs) y.atom.pred) y.kind x84 ds rs r.head.pred r.head.args r.body) true := by
      intro hu x84 hx
      subst hx
      have g1 := idx_in (mem_uses_head (ds := ds) hr)
      have g2 := idx_in (mem_uses_body (ds := ds) hr hyb hu)
      have g3 : lev.getD (idxS (namesP ds rs) y.atom.pred).toNat 0 ≤ lev.getD (idxS (namesP ds rs) r.head.pred).toNat 0 := hle _ (mem_allE.2 ⟨r, hr, y, hyb, hu, rfl⟩)
      have g4 : y.kind = 2 → lev.getD (idxS (namesP ds rs) y.atom.pred).toNat 0 < lev.getD (idxS (namesP ds rs) r.head.pred).toNat 0 := fun hk => hlt _ (mem_negE.2 ⟨r, hr, y, hyb, hk, rfl⟩)
      have g5 : (0 : Int) ≤ idxS (namesP ds rs) r.head.pred ∧ idxS (namesP ds rs) r.head.pred < ((namesP ds rs).length : Int) := g1
      have g6 : (0 : Int) ≤ idxS (namesP ds rs) y.atom.pred ∧ idxS (namesP ds rs) y.atom.pred < ((namesP ds rs).length : Int) := g2
      clear g1 g2
      refine Ev.step (fun k => by rw [lambrequinlaw11_StrataLevels.j2]) ?_
      refine Ev.neg (by decide) (Ev.neg (by omega) (Ev.neg (by omega) (Ev.pos g5.1 (Ev.pos (by omega) (Ev.pos g6.1 (Ev.pos (by omega) (Ev.neg ?_ ?_)))))))
      · show ¬ lev.getD (idxS (namesP ds rs) r.head.pred).toNat 0 < lev.getD (idxS (namesP ds rs) y.atom.pred).toNat 0
        omega
      · by_cases c : y.kind = 2
        · refine Ev.pos c (Ev.neg ?_ ih)
          have := g4 c
          show ¬ lev.getD (idxS (namesP ds rs) r.head.pred).toNat 0 = lev.getD (idxS (namesP ds rs) y.atom.pred).toNat 0
          omega
        · exact Ev.neg c ih
    by_cases c1 : y.kind = 1
    · exact Ev.pos c1 (use (by unfold useB; simp [c1]) false rfl)
    · refine Ev.neg c1 ?_
      by_cases c2 : y.kind = 2
      · exact use (by unfold useB; simp [c2]) _ (by simp [c2])
      · refine Ev.step (fun k => by rw [lambrequinlaw11_StrataLevels.j2]) ?_
        exact Ev.pos (by simp [c2]) ih
include hrs
theorem slev_l0 : ∀ (d : List Rule) (i : Nat), rs.drop i = d → Ev (fun k => lambrequinlaw11_StrataLevels.l0 k true lev (namesP ds rs) (i : Int) ds rs) true
  | [], i, hd => by
    refine Ev.step (fun k => by rw [lambrequinlaw11_StrataLevels.l0]) ?_
    exact Ev.neg (drop_end hd) (Ev.now _)
  | y :: d, i, hd => by
    obtain ⟨h1, h2, h3, h4, h5⟩ := drop_more hd (by omega)
    have e : rd_T64 rs (i : Int) = y := h3 _
    have hyr : y ∈ rs := List.mem_of_mem_drop (by rw [hd]; exact List.mem_cons_self)
    have ih := slev_l0 d (i + 1) h4
    rw [← h5] at ih
    refine Ev.step (fun k => by rw [lambrequinlaw11_StrataLevels.l0]) ?_
    rw [e]
    exact Ev.pos h1 (Ev.pos h2 (Ev.bind (At_ev _ _ hp) (slev_l1 hp hb hlen hle hlt hyr ih y.body 0 rfl)))
end
theorem StrataLevels_ev (ds : List Decl) (rs : List Rule) (hb : ∀ r ∈ rs, r.body.length ≤ 1000000) (hu : (usesN ds rs).length ≤ 2000000) (hrs : rs.length ≤ 1000000) : Ev (fun k => lambrequinlaw11_StrataLevels.f k ds rs) true := by
  unfold lambrequinlaw11_StrataLevels.f
  refine Ev.bind shown11_ev (Ev.bind (few_ev (by omega) (fun r hr => by have := hb r hr; omega) (by omega)) ?_)
  by_cases c : (usesN ds rs).length ≤ 60
  · refine Ev.pos (by simpa using c) ?_
    have hn := namesP_len ds rs
    rcases Of_ex (ds := ds) (rs := rs) hb (by omega) with ⟨lev, h1, h2, _, h4, h5, _⟩ | ⟨w, h1, _⟩
    · refine Ev.bind h1 (Ev.pos rfl (Ev.bind (Preds_ev hb (by omega)) (Ev.pos ?_ ?_)))
      · show (lev.length : Int) = ((namesP ds rs).length : Int)
        rw [h2]
      · exact slev_l0 (by omega) hrs hb h2 h4 h5 rs 0 rfl
    · exact Ev.bind h1 (Ev.neg (by show ¬ (7 : Int) = 0; decide) (Ev.pos rfl (Ev.now _)))
  · exact Ev.neg (by simpa using c) (Ev.now _)
theorem StrataLevels_pure (x0 : Prog) (y0 : x0.decls.length ≤ 9223372036854775807) (y1 : x0.rules.length ≤ 9223372036854775807) (u0 : sUProg x0 ≤ 1048576) : ∃ k, lambrequinlaw11_StrataLevels.f k x0.decls x0.rules = some true := by
  obtain ⟨h1, h2, h3⟩ := prog_small u0
  exact Ev.rounds (g := fun k => lambrequinlaw11_StrataLevels.f k x0.decls x0.rules) (StrataLevels_ev x0.decls x0.rules h1 h2 h3)
theorem StrataLevels_walk (w : World) (x0 : Prog) (A0_0 : Option Addr) (c0_0 : Nat) (l0_0 : x0.decls.length ≤ c0_0) (g0_0 : Kd.C k96 w A0_0 x0.decls.length x0.decls) (A0_1 : Option Addr) (c0_1 : Nat) (l0_1 : x0.rules.length ≤ c0_1) (g0_1 : Kd.C k64 w A0_1 x0.rules.length x0.rules) (u0 : sUProg x0 ≤ 1048576) :
    Calls Try.prog 10 #[.agg #[.slice A0_0 x0.decls.length c0_0, .slice A0_1 x0.rules.length c0_1]] w fun e w' => e = .returned (.bool true) ∧ Below w.heap.size w w' := by
  obtain ⟨k, h⟩ := StrataLevels_pure x0 g0_0.2.1 g0_1.2.1 u0
  exact (lambrequinlaw11_StrataLevels.calls k A0_0 c0_0 x0.decls A0_1 c0_1 x0.rules true w g0_0 l0_0 g0_1 l0_1 h).mono (fun e w' h' => ⟨h'.1, h'.2⟩)
end Go.Proofs.Ytmlhnjonmjmhdaa.H
namespace Go.Proofs.Ytmlhnjonmjmhdaa.strataLevelsUpto
open Go.ChangeShapes Go.WideShapes Go.ChangeAt Go.RowKit Go.Proofs.Ytmlhnjonmjmhdaa.H Go.Proofs.YtmlhnjonmjmhdaaW.PrintWords
open Go.ChangeMaps (open_string shut_string)
theorem own : ownKnob Try.prog.godebug = none := by kernel_rfl
theorem laidOut : laidOutB Try.prog = true := by kernel_rfl
set_option maxRecDepth 100000 in
theorem lifted (os : Os) (started : os.Started) (H : Type) (enc : TypeId × Value → H) (F0 : Stop.Interp) :
    ReturnsInHanded {} Try.checked os 10 .any ((Rows.OpenSpec.upto Rows.strataLevelsSpec).pre6 enc Try.prog Try.f10 Rows.strataLevelsUptoRow.domain false) (((Rows.OpenSpec.upto Rows.strataLevelsSpec).at F0).post enc Try.prog Try.f10 false true false false) := by
  refine returnsInHanded_of_cond (C := Try.checked) (s := (Rows.OpenSpec.upto Rows.strataLevelsSpec)) (k := Rows.uptoSmall) rfl own started (by kernel_rfl) Try.func10
    (OpenSpec.witness (enc := enc) (C := Try.checked) (s := (Rows.OpenSpec.upto Rows.strataLevelsSpec)) (k := Rows.uptoSmall) rfl false ⟨#[], #[.agg #[.slice none 0 0, .slice none 0 0]], []⟩ 8 (by kernel_rfl) (by kernel_rfl) (by kernel_rfl) (x := ([.agg [.nil, .nil]], [], [])) (by kernel_rfl) (by kernel_rfl) (by kernel_rfl)) ?_
  intro W base args ds gs before hval0 hW _ hk0 _
  have hval : ∀ (j : Nat) t v, Try.f10.params[j]? = some t → args[j]? = some v → Value.okWide Try.prog W .any base t v := hval0
  have hW' := hW
  obtain ⟨p, q, hA0, hV, rfl, hfz, hnd⟩ := hW
  have hA : DataW.TrodAll enc Try.prog W 0 (fun _ => true) true Try.f10.params.toList args.toList ds p := hA0
  rw [Try.params10] at hA hval
  obtain ⟨v0, vs0, d0, ds0, p0, q0, hargs, rfl, rfl, h0, r0⟩ := trodAll_cons hA
  obtain ⟨rfl, rfl, rfl⟩ := trodAll_nil r0
  obtain rfl : args = #[v0] := by cases args; simp_all
  obtain ⟨rfl, rfl⟩ := trodVars_none hV
  have hk : Rows.uptoBulkAll [d0] ≤ 1048576 := of_decide_eq_true hk0
  simp only [Rows.uptoBulkAll] at hk
  have k0 := h0
  have lt0 : ∀ x ∈ p0, x.block < W.heap.size := by obtain ⟨m, hm⟩ := k0; exact DataW.trod_lt m _ _ _ hm
  obtain ⟨cs0, rfl, -⟩ := okWide_struct Try.underlying50 (hval 0 50 v0 rfl rfl)
  obtain ⟨x0, g0, u0⟩ := opensU_Prog.arg k0
  obtain ⟨A0_0, c0_0, A0_1, c0_1, e0, l0_0, g0_0, l0_1, g0_1⟩ := k50_open g0
  obtain ⟨cl0⟩ := cs0
  obtain rfl : cl0 = _ := e0
  replace u0 : sUProg x0 ≤ 1048576 := by omega
  try clear hval0
  refine (StrataLevels_walk W x0 A0_0 c0_0 l0_0 g0_0 A0_1 c0_1 l0_1 g0_1 u0).mono fun e W' ⟨he, bel⟩ => ?_
  subst he
  exact ⟨_, rfl, _, _, _, [], _, [], hW', trodAll_mk1 (shut_bool Try.underlying4 _), (trodAll_cons_mk (Below.trod laidOut (by kernel_rfl) (of_decide_eq_true (by kernel_rfl)) k0 bel lt0) trodAll_mk0), rfl, bel.frame _, fun h => by cases h⟩
theorem over : Rows.strataLevelsUptoRow.holds Try.pinned (Rows.OpenSpec.upto Rows.strataLevelsSpec) :=
  OpenClaim.holds_of_cond 10 Try.f10 rfl rfl rfl rfl rfl rfl rfl ⟨rfl, rfl, rfl, rfl, rfl⟩ rfl rfl rfl rfl rfl (by kernel_rfl) Try.func10 (by kernel_rfl)
    (of_decide_eq_true (by kernel_rfl)) (by unfold Func.isWrapper; first | (rw [if_pos (by decide +kernel)]; kernel_rfl) | (rw [if_neg (by decide +kernel)]; exact ⟨rfl, rfl⟩))
    (fun os started H enc _ F0 => lifted os started H enc F0)
theorem proved : Rows.StrataLevelsUptoSaid := over
end Go.Proofs.Ytmlhnjonmjmhdaa.strataLevelsUpto
namespace Go.Proofs.Ytmlhnjonmjmhdaa
theorem strataLevelsUpto_holds : Rows.StrataLevelsUptoSaid := strataLevelsUpto.proved
#print axioms strataLevelsUpto_holds
end Go.Proofs.Ytmlhnjonmjmhdaa

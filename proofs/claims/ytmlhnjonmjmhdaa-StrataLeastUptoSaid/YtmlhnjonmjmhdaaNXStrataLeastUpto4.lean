/- RowStrataLeastUpto of the seat's law StrataLeastUpto: the law holds, under the statement's own conditions. -/
import Derived.Test.YtmlhnjonmjmhdaaNXStrataLeastUpto
import Derived.Test.YtmlhnjonmjmhdaaNXStrataLeastUpto2
import Derived.Test.YtmlhnjonmjmhdaaNXStrataLeastUpto3
import Derived.Test.YtmlhnjonmjmhdaaRows
import Derived.Test.YtmlhnjonmjmhdaaNW
import Derived.WalkKit
import Derived.ProofKit
import Derived.OpenShut
import Derived.ShutString
import Derived.ChangeOld
import Derived.Below
import Derived.SizedLaws
import Derived.Carry
import Derived.JoinedCond
import Derived.JoinedAt
set_option linter.unusedVariables false
set_option linter.unusedSimpArgs false
set_option linter.unusedSectionVars false
namespace Go.Proofs.Ytmlhnjonmjmhdaa.H
open Go.RowKit Go.Proofs.YtmlhnjonmjmhdaaW.PrintWords Go.Proofs.YtmlhnjonmjmhdaaW.PrintLast Go.Proofs.YtmlhnjonmjmhdaaW.PrintMore
attribute [local go_sem] max2_int min2_int max_two min_two max_three min_three max_four min_four
mutual
def lambrequinlaw11_StrataLeast.l0 : Nat → List Int → Bool → List ByteArray → List (IPair) → List (IPair) → Int → List (Decl) → List (Rule) → Option (Bool)
 | 0, _, _, _, _, _, _, _, _ => none
 | k + 1, x1, x5, x6, x7, x8, x9, x102000, x102001 => if x9 < (x7.length : Int) then (if 0 ≤ x9 then (if 0 ≤ ((rd_T27 x7 x9).fst) then (if ((rd_T27 x7 x9).fst) < (x1.length : Int) then (if 0 ≤ ((rd_T27 x7 x9).snd) then (if ((rd_T27 x7 x9).snd) < (x1.length : Int) then (if (rd x1 ((rd_T27 x7 x9).fst)) < (rd x1 ((rd_T27 x7 x9).snd)) then (some x5) else (lambrequinlaw11_StrataLeast.l0 k x1 x5 x6 x7 x8 (wrap64 (x9 + 1)) x102000 x102001)) else (none)) else (none)) else (none)) else (none)) else (none)) else (lambrequinlaw11_StrataLeast.l1 k x1 x5 x6 x8 0 x102000 x102001)
def lambrequinlaw11_StrataLeast.l1 : Nat → List Int → Bool → List ByteArray → List (IPair) → Int → List (Decl) → List (Rule) → Option (Bool)
 | 0, _, _, _, _, _, _, _ => none
 | k + 1, x1, x5, x6, x8, x10, x102000, x102001 => if x10 < (x8.length : Int) then (if 0 ≤ x10 then (if 0 ≤ ((rd_T27 x8 x10).fst) then (if ((rd_T27 x8 x10).fst) < (x1.length : Int) then (if 0 ≤ ((rd_T27 x8 x10).snd) then (if ((rd_T27 x8 x10).snd) < (x1.length : Int) then (if (rd x1 ((rd_T27 x8 x10).fst)) = (rd x1 ((rd_T27 x8 x10).snd)) then (some x5) else (lambrequinlaw11_StrataLeast.l1 k x1 x5 x6 x8 (wrap64 (x10 + 1)) x102000 x102001)) else (none)) else (none)) else (none)) else (none)) else (none)) else ((strata_Of.f k x102000 x102001).bind fun bt121 => (if bt121.2.2 = 0 then (lambrequinlaw11_StrataLeast.j2 k x1 x5 bt121.1 ((bt121.1.length : Int) != (x6.length : Int))) else (lambrequinlaw11_StrataLeast.j2 k x1 x5 bt121.1 true)))
def lambrequinlaw11_StrataLeast.j2 : Nat → List Int → Bool → List Int → Bool → Option (Bool)
 | 0, _, _, _, _ => none
 | k + 1, x1, x5, x11, x94 => if x94 = true then (some false) else (lambrequinlaw11_StrataLeast.l2 k x1 x5 x11 0)
def lambrequinlaw11_StrataLeast.l2 : Nat → List Int → Bool → List Int → Int → Option (Bool)
 | 0, _, _, _, _ => none
 | k + 1, x1, x5, x11, x14 => if x14 < (x11.length : Int) then (if 0 ≤ x14 then (if x14 < (x1.length : Int) then (if (rd x11 x14) > (wrap64 (rd x1 x14)) then (some false) else (if (rd x11 x14) < 0 then (some false) else (lambrequinlaw11_StrataLeast.l2 k x1 x5 x11 (wrap64 (x14 + 1))))) else (none)) else (none)) else (some x5)
end
def lambrequinlaw11_StrataLeast.f (k : Nat) (l0_0 : List (Decl)) (l0_1 : List (Rule)) (l1 : List Int) : Option (Bool) := (lambrequinlaw11_shown.f k).bind fun t102 => ((lambrequinlaw11_few.f k l0_0 l0_1).bind fun t103 => (if t103 = true then ((strata_Preds.f k l0_0 l0_1).bind fun t104 => (if (l1.length : Int) < (t104.length : Int) then (some t102) else ((lambrequinref11_Edges.f k l0_0 l0_1 0).bind fun t107 => ((lambrequinref11_Edges.f k l0_0 l0_1 2).bind fun t110 => (lambrequinlaw11_StrataLeast.l0 k l1 t102 t104 t107 t110 0 l0_0 l0_1))))) else (some t102)))
theorem lambrequinlaw11_StrataLeast.mono_l : ∀ k, (∀ y0 y1 y2 y3 y4 y5 y6 y7, LeO (lambrequinlaw11_StrataLeast.l0 k y0 y1 y2 y3 y4 y5 y6 y7) (lambrequinlaw11_StrataLeast.l0 (k + 1) y0 y1 y2 y3 y4 y5 y6 y7)) ∧ (∀ y0 y1 y2 y3 y4 y5 y6, LeO (lambrequinlaw11_StrataLeast.l1 k y0 y1 y2 y3 y4 y5 y6) (lambrequinlaw11_StrataLeast.l1 (k + 1) y0 y1 y2 y3 y4 y5 y6)) ∧ (∀ y0 y1 y2 y3, LeO (lambrequinlaw11_StrataLeast.j2 k y0 y1 y2 y3) (lambrequinlaw11_StrataLeast.j2 (k + 1) y0 y1 y2 y3)) ∧ (∀ y0 y1 y2 y3, LeO (lambrequinlaw11_StrataLeast.l2 k y0 y1 y2 y3) (lambrequinlaw11_StrataLeast.l2 (k + 1) y0 y1 y2 y3))
 | 0 => ⟨fun _ _ _ _ _ _ _ _ r h => by simp [lambrequinlaw11_StrataLeast.l0] at h, fun _ _ _ _ _ _ _ r h => by simp [lambrequinlaw11_StrataLeast.l1] at h, fun _ _ _ _ r h => by simp [lambrequinlaw11_StrataLeast.j2] at h, fun _ _ _ _ r h => by simp [lambrequinlaw11_StrataLeast.l2] at h⟩
 | k + 1 => by
  obtain ⟨ih0, ih1, ih2, ih3⟩ := lambrequinlaw11_StrataLeast.mono_l k
  refine ⟨?_, ?_, ?_, ?_⟩
  ·intro y0 y1 y2 y3 y4 y5 y6 y7
   unfold lambrequinlaw11_StrataLeast.l0
   repeat' first
   | (with_reducible exact ih0 _ _ _ _ _ _ _ _)
   | (with_reducible exact ih1 _ _ _ _ _ _ _)
   | (with_reducible exact ih2 _ _ _ _)
   | (with_reducible exact ih3 _ _ _ _)
   | (with_reducible exact lambrequinlaw11_few.mono _ _ _)
   | (with_reducible exact lambrequinlaw11_shown.mono _)
   | (with_reducible exact lambrequinref11_Edges.mono _ _ _ _)
   | (with_reducible exact strata_Of.mono _ _ _)
   | (with_reducible exact strata_Preds.mono _ _ _)
   | (with_reducible exact LeO.refl _)
   | (with_reducible exact LeO.none _)
   | (with_reducible refine LeO.ite ?_ ?_)
   | (with_reducible refine LeO.bind ?_ (fun _ => ?_))
   | exact ih0 _ _ _ _ _ _ _ _
   | exact ih1 _ _ _ _ _ _ _
   | exact ih2 _ _ _ _
   | exact ih3 _ _ _ _
   | exact lambrequinlaw11_few.mono _ _ _
   | exact lambrequinlaw11_shown.mono _
   | exact lambrequinref11_Edges.mono _ _ _ _
   | exact strata_Of.mono _ _ _
   | exact strata_Preds.mono _ _ _
   | exact LeO.none _
   | refine LeO.ite ?_ ?_
   | refine LeO.bind ?_ (fun _ => ?_)
  ·intro y0 y1 y2 y3 y4 y5 y6
   unfold lambrequinlaw11_StrataLeast.l1
   repeat' first
   | (with_reducible exact ih0 _ _ _ _ _ _ _ _)
   | (with_reducible exact ih1 _ _ _ _ _ _ _)
   | (with_reducible exact ih2 _ _ _ _)
   | (with_reducible exact ih3 _ _ _ _)
   | (with_reducible exact lambrequinlaw11_few.mono _ _ _)
   | (with_reducible exact lambrequinlaw11_shown.mono _)
   | (with_reducible exact lambrequinref11_Edges.mono _ _ _ _)
   | (with_reducible exact strata_Of.mono _ _ _)
   | (with_reducible exact strata_Preds.mono _ _ _)
   | (with_reducible exact LeO.refl _)
   | (with_reducible exact LeO.none _)
   | (with_reducible refine LeO.ite ?_ ?_)
   | (with_reducible refine LeO.bind ?_ (fun _ => ?_))
   | exact ih0 _ _ _ _ _ _ _ _
   | exact ih1 _ _ _ _ _ _ _
   | exact ih2 _ _ _ _
   | exact ih3 _ _ _ _
   | exact lambrequinlaw11_few.mono _ _ _
   | exact lambrequinlaw11_shown.mono _
   | exact lambrequinref11_Edges.mono _ _ _ _
   | exact strata_Of.mono _ _ _
   | exact strata_Preds.mono _ _ _
   | exact LeO.none _
   | refine LeO.ite ?_ ?_
   | refine LeO.bind ?_ (fun _ => ?_)
  ·intro y0 y1 y2 y3
   unfold lambrequinlaw11_StrataLeast.j2
   repeat' first
   | (with_reducible exact ih0 _ _ _ _ _ _ _ _)
   | (with_reducible exact ih1 _ _ _ _ _ _ _)
   | (with_reducible exact ih2 _ _ _ _)
   | (with_reducible exact ih3 _ _ _ _)
   | (with_reducible exact lambrequinlaw11_few.mono _ _ _)
   | (with_reducible exact lambrequinlaw11_shown.mono _)
   | (with_reducible exact lambrequinref11_Edges.mono _ _ _ _)
   | (with_reducible exact strata_Of.mono _ _ _)
   | (with_reducible exact strata_Preds.mono _ _ _)
   | (with_reducible exact LeO.refl _)
   | (with_reducible exact LeO.none _)
   | (with_reducible refine LeO.ite ?_ ?_)
   | (with_reducible refine LeO.bind ?_ (fun _ => ?_))
   | exact ih0 _ _ _ _ _ _ _ _
   | exact ih1 _ _ _ _ _ _ _
   | exact ih2 _ _ _ _
   | exact ih3 _ _ _ _
   | exact lambrequinlaw11_few.mono _ _ _
   | exact lambrequinlaw11_shown.mono _
   | exact lambrequinref11_Edges.mono _ _ _ _
   | exact strata_Of.mono _ _ _
   | exact strata_Preds.mono _ _ _
   | exact LeO.none _
   | refine LeO.ite ?_ ?_
   | refine LeO.bind ?_ (fun _ => ?_)
  ·intro y0 y1 y2 y3
   unfold lambrequinlaw11_StrataLeast.l2
   repeat' first
   | (with_reducible exact ih0 _ _ _ _ _ _ _ _)
   | (with_reducible exact ih1 _ _ _ _ _ _ _)
   | (with_reducible exact ih2 _ _ _ _)
   | (with_reducible exact ih3 _ _ _ _)
   | (with_reducible exact lambrequinlaw11_few.mono _ _ _)
   | (with_reducible exact lambrequinlaw11_shown.mono _)
   | (with_reducible exact lambrequinref11_Edges.mono _ _ _ _)
   | (with_reducible exact strata_Of.mono _ _ _)
   | (with_reducible exact strata_Preds.mono _ _ _)
   | (with_reducible exact LeO.refl _)
   | (with_reducible exact LeO.none _)
   | (with_reducible refine LeO.ite ?_ ?_)
   | (with_reducible refine LeO.bind ?_ (fun _ => ?_))
   | exact ih0 _ _ _ _ _ _ _ _
   | exact ih1 _ _ _ _ _ _ _
   | exact ih2 _ _ _ _
   | exact ih3 _ _ _ _
   | exact lambrequinlaw11_few.mono _ _ _
   | exact lambrequinlaw11_shown.mono _
   | exact lambrequinref11_Edges.mono _ _ _ _
   | exact strata_Of.mono _ _ _
   | exact strata_Preds.mono _ _ _
   | exact LeO.none _
   | refine LeO.ite ?_ ?_
   | refine LeO.bind ?_ (fun _ => ?_)
theorem lambrequinlaw11_StrataLeast.mono : ∀ a0 a1 a2 k, LeO (lambrequinlaw11_StrataLeast.f k a0 a1 a2) (lambrequinlaw11_StrataLeast.f (k + 1) a0 a1 a2) := by
 intro a0 a1 a2 k
 obtain ⟨ih0, ih1, ih2, ih3⟩ := lambrequinlaw11_StrataLeast.mono_l k
 unfold lambrequinlaw11_StrataLeast.f
 repeat' first
   | (with_reducible exact ih0 _ _ _ _ _ _ _ _)
   | (with_reducible exact ih1 _ _ _ _ _ _ _)
   | (with_reducible exact ih2 _ _ _ _)
   | (with_reducible exact ih3 _ _ _ _)
   | (with_reducible exact lambrequinlaw11_few.mono _ _ _)
   | (with_reducible exact lambrequinlaw11_shown.mono _)
   | (with_reducible exact lambrequinref11_Edges.mono _ _ _ _)
   | (with_reducible exact strata_Of.mono _ _ _)
   | (with_reducible exact strata_Preds.mono _ _ _)
   | (with_reducible exact LeO.refl _)
   | (with_reducible exact LeO.none _)
   | (with_reducible refine LeO.ite ?_ ?_)
   | (with_reducible refine LeO.bind ?_ (fun _ => ?_))
   | exact ih0 _ _ _ _ _ _ _ _
   | exact ih1 _ _ _ _ _ _ _
   | exact ih2 _ _ _ _
   | exact ih3 _ _ _ _
   | exact lambrequinlaw11_few.mono _ _ _
   | exact lambrequinlaw11_shown.mono _
   | exact lambrequinref11_Edges.mono _ _ _ _
   | exact strata_Of.mono _ _ _
   | exact strata_Preds.mono _ _ _
   | exact LeO.none _
   | refine LeO.ite ?_ ?_
   | refine LeO.bind ?_ (fun _ => ?_)
set_option maxHeartbeats 8000000 in
set_option maxRecDepth 100000 in
theorem lambrequinlaw11_StrataLeast.calls (k : Nat) (A0_0 : Option Addr) (c0_0 : Nat) (l0_0 : List (Decl)) (A0_1 : Option Addr) (c0_1 : Nat) (l0_1 : List (Rule)) (A1 : Option Addr) (c1 : Nat) (l1 : List Int) (r : Bool) (w : World) (hr0_0 : Kd.C k96 w A0_0 l0_0.length l0_0) (hc0_0 : l0_0.length ≤ c0_0) (hr0_1 : Kd.C k64 w A0_1 l0_1.length l0_1) (hc0_1 : l0_1.length ≤ c0_1) (hr1 : Kd.C (Kd.int .u8) w A1 l1.length l1) (hc1 : l1.length ≤ c1) (h : lambrequinlaw11_StrataLeast.f k l0_0 l0_1 l1 = some r) :
  Calls Try.prog 11 #[.agg #[.slice A0_0 l0_0.length c0_0, .slice A0_1 l0_1.length c0_1], .slice A1 l1.length c1] w fun e w' => e = .returned (.bool r) ∧ Below w.heap.size w w' := by
 have hu50 := Try.underlying50
 have HR0_0 := am hr0_0
 have HC0_0 := am hc0_0
 clear hr0_0 hc0_0
 have HR0_1 := am hr0_1
 have HC0_1 := am hc0_1
 clear hr0_1 hc0_1
 have HR1 := am hr1
 have HC1 := am hc1
 clear hr1 hc1
 have HB := am (Below.refl w.heap.size w)
 have H : ((lambrequinlaw11_shown.f k).bind fun t102 => ((lambrequinlaw11_few.f k l0_0 l0_1).bind fun t103 => (if t103 = true then ((strata_Preds.f k l0_0 l0_1).bind fun t104 => (if (l1.length : Int) < (t104.length : Int) then (some t102) else ((lambrequinref11_Edges.f k l0_0 l0_1 0).bind fun t107 => ((lambrequinref11_Edges.f k l0_0 l0_1 2).bind fun t110 => (lambrequinlaw11_StrataLeast.l0 k l1 t102 t104 t107 t110 0 l0_0 l0_1))))) else (some t102)))) = some r := h
 clear h
 replace H := Option.bind_eq_some_iff.mp H
 obtain ⟨t102, A30, H⟩ := H
 replace H : ((lambrequinlaw11_few.f k l0_0 l0_1).bind fun t103 => (if t103 = true then ((strata_Preds.f k l0_0 l0_1).bind fun t104 => (if (l1.length : Int) < (t104.length : Int) then (some t102) else ((lambrequinref11_Edges.f k l0_0 l0_1 0).bind fun t107 => ((lambrequinref11_Edges.f k l0_0 l0_1 2).bind fun t110 => (lambrequinlaw11_StrataLeast.l0 k l1 t102 t104 t107 t110 0 l0_0 l0_1))))) else (some t102))) = some r := H
 have A3 := am A30
 clear A30
 replace H := Option.bind_eq_some_iff.mp H
 obtain ⟨t103, A40, H⟩ := H
 replace H : (if t103 = true then ((strata_Preds.f k l0_0 l0_1).bind fun t104 => (if (l1.length : Int) < (t104.length : Int) then (some t102) else ((lambrequinref11_Edges.f k l0_0 l0_1 0).bind fun t107 => ((lambrequinref11_Edges.f k l0_0 l0_1 2).bind fun t110 => (lambrequinlaw11_StrataLeast.l0 k l1 t102 t104 t107 t110 0 l0_0 l0_1))))) else (some t102)) = some r := H
 have A4 := am A40
 clear A40
 by_cases c5 : t103 = true
 ·subst c5
  have H1 : ((strata_Preds.f k l0_0 l0_1).bind fun t104 => (if (l1.length : Int) < (t104.length : Int) then (some t102) else ((lambrequinref11_Edges.f k l0_0 l0_1 0).bind fun t107 => ((lambrequinref11_Edges.f k l0_0 l0_1 2).bind fun t110 => (lambrequinlaw11_StrataLeast.l0 k l1 t102 t104 t107 t110 0 l0_0 l0_1))))) = some r := by rw [if_pos rfl] at H; exact H
  clear H
  have H := H1
  clear H1
  replace H := Option.bind_eq_some_iff.mp H
  obtain ⟨t104, A60, H⟩ := H
  replace H : (if (l1.length : Int) < (t104.length : Int) then (some t102) else ((lambrequinref11_Edges.f k l0_0 l0_1 0).bind fun t107 => ((lambrequinref11_Edges.f k l0_0 l0_1 2).bind fun t110 => (lambrequinlaw11_StrataLeast.l0 k l1 t102 t104 t107 t110 0 l0_0 l0_1)))) = some r := H
  have A6 := am A60
  clear A60
  by_cases c7 : (l1.length : Int) < (t104.length : Int)
  ·rw [if_pos c7] at H
   have c7b0 : decide ((l1.length : Int) < (t104.length : Int)) = true := decide_eq_true c7
   have c7b1 : decide (l1.length < t104.length) = true := decide_eq_true (Int.ofNat_lt.mp c7)
   clear c7
   obtain rfl := Option.some.inj H
   go_enter Try.func11, Try.ntmps11
   go_wp2_with (first | ((with_reducible refine gate_dst (N := 2) rfl ?_); (try (refine gate_guard (by rfl) ?_; dsimp only)); refine box_event ?hg (N := 2) ?hd (cs := #[.slice A0_0 l0_0.length c0_0, .slice A0_1 l0_1.length c0_1]) (t := 50) ?hr ?_; (case hd => rfl); (case hg => rfl); (case hr => first | (go_simp; done) | (go_simp; rfl)); intro gb101 hg w8 hbox hb; have BK101 := am (hbox); have GW101 := am (gw_ hg HB.out); have GE101 := GW101; replace HB := am (bs_ HB.out hb); clear hb hbox hg) | (go_at_call 27; (with_reducible refine (lambrequinlaw11_shown.calls k  t102 _ A3.out).mono ?_); rintro e w9 ⟨rfl, hb⟩; replace BK101 := am (bb_ BK101.out hb); replace HB := am (bs_ HB.out hb); (try clear hb); (try clear hb2); (try clear hk); (try clear hi); obtain ⟨hcz10_0, hcz10_1, hfz10_0, hfz10_1⟩ := bc2 BK101.out) | (go_at_call 28; (with_reducible refine (lambrequinlaw11_few.calls k _ _ l0_0 _ _ l0_1 true _ ?side1 ?side2 ?side3 ?side4 A4.out).mono ?_); (case side1 => repeat (first | exact (Kd.C_below HR0_0.out HB.out) | (with_reducible refine Kd.C_alloc ?_ _) | (with_reducible refine Kd.C_drewN ?_ _) | (with_reducible refine Kd.C_drew ?_))); (case side2 => exact HC0_0.out); (case side3 => repeat (first | exact (Kd.C_below HR0_1.out HB.out) | (with_reducible refine Kd.C_alloc ?_ _) | (with_reducible refine Kd.C_drewN ?_ _) | (with_reducible refine Kd.C_drew ?_))); (case side4 => exact HC0_1.out); rintro e w11 ⟨rfl, hb⟩; replace BK101 := am (bb_ BK101.out hb); replace HB := am (bs_ HB.out hb); (try clear hb); (try clear hb2); (try clear hk); (try clear hi); obtain ⟨hcz12_0, hcz12_1, hfz12_0, hfz12_1⟩ := bc2 BK101.out) | (go_at_call 32; (with_reducible refine (strata_Preds.calls k _ _ l0_0 _ _ l0_1 t104 _ ?side1 ?side2 ?side3 ?side4 A6.out).mono ?_); (case side1 => repeat (first | exact (Kd.C_below HR0_0.out HB.out) | (with_reducible refine Kd.C_alloc ?_ _) | (with_reducible refine Kd.C_drewN ?_ _) | (with_reducible refine Kd.C_drew ?_))); (case side2 => exact HC0_0.out); (case side3 => repeat (first | exact (Kd.C_below HR0_1.out HB.out) | (with_reducible refine Kd.C_alloc ?_ _) | (with_reducible refine Kd.C_drewN ?_ _) | (with_reducible refine Kd.C_drew ?_))); (case side4 => exact HC0_1.out); rintro e w13 ⟨v105, rfl, ho0, hb⟩; have HO106 := am (Kd.R_lower ho0 (below_size (pL HB.out))); replace BK101 := am (bb_ BK101.out hb); replace HB := am (bs_ HB.out hb); (try clear hb); (try clear hb2); (try clear hk); (try clear hi); (try clear ho0); obtain ⟨Ao14, co14, eo14⟩ := Kd.R_slice HO106.out; subst eo14))
   repeat (go_quiet (first | ((with_reducible refine gate_dst (N := 2) rfl ?_); (try (refine gate_guard (by rfl) ?_; dsimp only)); refine box_event ?hg (N := 2) ?hd (cs := #[.slice A0_0 l0_0.length c0_0, .slice A0_1 l0_1.length c0_1]) (t := 50) ?hr ?_; (case hd => rfl); (case hg => rfl); (case hr => first | (go_simp; done) | (go_simp; rfl)); intro gb101 hg w8 hbox hb; have BK101 := am (hbox); have GW101 := am (gw_ hg HB.out); have GE101 := GW101; replace HB := am (bs_ HB.out hb); clear hb hbox hg) | (go_at_call 27; (with_reducible refine (lambrequinlaw11_shown.calls k  t102 _ A3.out).mono ?_); rintro e w9 ⟨rfl, hb⟩; replace BK101 := am (bb_ BK101.out hb); replace HB := am (bs_ HB.out hb); (try clear hb); (try clear hb2); (try clear hk); (try clear hi); obtain ⟨hcz10_0, hcz10_1, hfz10_0, hfz10_1⟩ := bc2 BK101.out) | (go_at_call 28; (with_reducible refine (lambrequinlaw11_few.calls k _ _ l0_0 _ _ l0_1 true _ ?side1 ?side2 ?side3 ?side4 A4.out).mono ?_); (case side1 => repeat (first | exact (Kd.C_below HR0_0.out HB.out) | (with_reducible refine Kd.C_alloc ?_ _) | (with_reducible refine Kd.C_drewN ?_ _) | (with_reducible refine Kd.C_drew ?_))); (case side2 => exact HC0_0.out); (case side3 => repeat (first | exact (Kd.C_below HR0_1.out HB.out) | (with_reducible refine Kd.C_alloc ?_ _) | (with_reducible refine Kd.C_drewN ?_ _) | (with_reducible refine Kd.C_drew ?_))); (case side4 => exact HC0_1.out); rintro e w11 ⟨rfl, hb⟩; replace BK101 := am (bb_ BK101.out hb); replace HB := am (bs_ HB.out hb); (try clear hb); (try clear hb2); (try clear hk); (try clear hi); obtain ⟨hcz12_0, hcz12_1, hfz12_0, hfz12_1⟩ := bc2 BK101.out) | (go_at_call 32; (with_reducible refine (strata_Preds.calls k _ _ l0_0 _ _ l0_1 t104 _ ?side1 ?side2 ?side3 ?side4 A6.out).mono ?_); (case side1 => repeat (first | exact (Kd.C_below HR0_0.out HB.out) | (with_reducible refine Kd.C_alloc ?_ _) | (with_reducible refine Kd.C_drewN ?_ _) | (with_reducible refine Kd.C_drew ?_))); (case side2 => exact HC0_0.out); (case side3 => repeat (first | exact (Kd.C_below HR0_1.out HB.out) | (with_reducible refine Kd.C_alloc ?_ _) | (with_reducible refine Kd.C_drewN ?_ _) | (with_reducible refine Kd.C_drew ?_))); (case side4 => exact HC0_1.out); rintro e w13 ⟨v105, rfl, ho0, hb⟩; have HO106 := am (Kd.R_lower ho0 (below_size (pL HB.out))); replace BK101 := am (bb_ BK101.out hb); replace HB := am (bs_ HB.out hb); (try clear hb); (try clear hb2); (try clear hk); (try clear hi); (try clear ho0); obtain ⟨Ao14, co14, eo14⟩ := Kd.R_slice HO106.out; subst eo14)); try go_wp2_with (first | ((with_reducible refine gate_dst (N := 2) rfl ?_); (try (refine gate_guard (by rfl) ?_; dsimp only)); refine box_event ?hg (N := 2) ?hd (cs := #[.slice A0_0 l0_0.length c0_0, .slice A0_1 l0_1.length c0_1]) (t := 50) ?hr ?_; (case hd => rfl); (case hg => rfl); (case hr => first | (go_simp; done) | (go_simp; rfl)); intro gb101 hg w8 hbox hb; have BK101 := am (hbox); have GW101 := am (gw_ hg HB.out); have GE101 := GW101; replace HB := am (bs_ HB.out hb); clear hb hbox hg) | (go_at_call 27; (with_reducible refine (lambrequinlaw11_shown.calls k  t102 _ A3.out).mono ?_); rintro e w9 ⟨rfl, hb⟩; replace BK101 := am (bb_ BK101.out hb); replace HB := am (bs_ HB.out hb); (try clear hb); (try clear hb2); (try clear hk); (try clear hi); obtain ⟨hcz10_0, hcz10_1, hfz10_0, hfz10_1⟩ := bc2 BK101.out) | (go_at_call 28; (with_reducible refine (lambrequinlaw11_few.calls k _ _ l0_0 _ _ l0_1 true _ ?side1 ?side2 ?side3 ?side4 A4.out).mono ?_); (case side1 => repeat (first | exact (Kd.C_below HR0_0.out HB.out) | (with_reducible refine Kd.C_alloc ?_ _) | (with_reducible refine Kd.C_drewN ?_ _) | (with_reducible refine Kd.C_drew ?_))); (case side2 => exact HC0_0.out); (case side3 => repeat (first | exact (Kd.C_below HR0_1.out HB.out) | (with_reducible refine Kd.C_alloc ?_ _) | (with_reducible refine Kd.C_drewN ?_ _) | (with_reducible refine Kd.C_drew ?_))); (case side4 => exact HC0_1.out); rintro e w11 ⟨rfl, hb⟩; replace BK101 := am (bb_ BK101.out hb); replace HB := am (bs_ HB.out hb); (try clear hb); (try clear hb2); (try clear hk); (try clear hi); obtain ⟨hcz12_0, hcz12_1, hfz12_0, hfz12_1⟩ := bc2 BK101.out) | (go_at_call 32; (with_reducible refine (strata_Preds.calls k _ _ l0_0 _ _ l0_1 t104 _ ?side1 ?side2 ?side3 ?side4 A6.out).mono ?_); (case side1 => repeat (first | exact (Kd.C_below HR0_0.out HB.out) | (with_reducible refine Kd.C_alloc ?_ _) | (with_reducible refine Kd.C_drewN ?_ _) | (with_reducible refine Kd.C_drew ?_))); (case side2 => exact HC0_0.out); (case side3 => repeat (first | exact (Kd.C_below HR0_1.out HB.out) | (with_reducible refine Kd.C_alloc ?_ _) | (with_reducible refine Kd.C_drewN ?_ _) | (with_reducible refine Kd.C_drew ?_))); (case side4 => exact HC0_1.out); rintro e w13 ⟨v105, rfl, ho0, hb⟩; have HO106 := am (Kd.R_lower ho0 (below_size (pL HB.out))); replace BK101 := am (bb_ BK101.out hb); replace HB := am (bs_ HB.out hb); (try clear hb); (try clear hb2); (try clear hk); (try clear hi); (try clear ho0); obtain ⟨Ao14, co14, eo14⟩ := Kd.R_slice HO106.out; subst eo14)))
   go_ret
   exact ⟨by first | rfl | (simp [errW_none, errW_some] <;> rfl) | (simp [*, errW_none, errW_some] <;> rfl), pL HB.out⟩
  ·rw [if_neg c7] at H
   have c7b0 : decide ((l1.length : Int) < (t104.length : Int)) = false := decide_eq_false c7
   have c7b1 : decide (l1.length < t104.length) = false := decide_eq_false (fun h => c7 (Int.ofNat_lt.mpr h))
   clear c7
   replace H := Option.bind_eq_some_iff.mp H
   obtain ⟨t107, A150, H⟩ := H
   replace H : ((lambrequinref11_Edges.f k l0_0 l0_1 2).bind fun t110 => (lambrequinlaw11_StrataLeast.l0 k l1 t102 t104 t107 t110 0 l0_0 l0_1)) = some r := H
   have A15 := am A150
   clear A150
   replace H := Option.bind_eq_some_iff.mp H
   obtain ⟨t110, A160, H⟩ := H
   replace H : (lambrequinlaw11_StrataLeast.l0 k l1 t102 t104 t107 t110 0 l0_0 l0_1) = some r := H
   have A16 := am A160
   clear A160
   have H' := am H
   clear H
   go_enter Try.func11, Try.ntmps11
   go_wp2_with (first | ((with_reducible refine gate_dst (N := 2) rfl ?_); (try (refine gate_guard (by rfl) ?_; dsimp only)); refine box_event ?hg (N := 2) ?hd (cs := #[.slice A0_0 l0_0.length c0_0, .slice A0_1 l0_1.length c0_1]) (t := 50) ?hr ?_; (case hd => rfl); (case hg => rfl); (case hr => first | (go_simp; done) | (go_simp; rfl)); intro gb101 hg w17 hbox hb; have BK101 := am (hbox); have GW101 := am (gw_ hg HB.out); have GE101 := GW101; replace HB := am (bs_ HB.out hb); clear hb hbox hg) | (go_at_call 27; (with_reducible refine (lambrequinlaw11_shown.calls k  t102 _ A3.out).mono ?_); rintro e w18 ⟨rfl, hb⟩; replace BK101 := am (bb_ BK101.out hb); replace HB := am (bs_ HB.out hb); (try clear hb); (try clear hb2); (try clear hk); (try clear hi); obtain ⟨hcz19_0, hcz19_1, hfz19_0, hfz19_1⟩ := bc2 BK101.out) | (go_at_call 28; (with_reducible refine (lambrequinlaw11_few.calls k _ _ l0_0 _ _ l0_1 true _ ?side1 ?side2 ?side3 ?side4 A4.out).mono ?_); (case side1 => repeat (first | exact (Kd.C_below HR0_0.out HB.out) | (with_reducible refine Kd.C_alloc ?_ _) | (with_reducible refine Kd.C_drewN ?_ _) | (with_reducible refine Kd.C_drew ?_))); (case side2 => exact HC0_0.out); (case side3 => repeat (first | exact (Kd.C_below HR0_1.out HB.out) | (with_reducible refine Kd.C_alloc ?_ _) | (with_reducible refine Kd.C_drewN ?_ _) | (with_reducible refine Kd.C_drew ?_))); (case side4 => exact HC0_1.out); rintro e w20 ⟨rfl, hb⟩; replace BK101 := am (bb_ BK101.out hb); replace HB := am (bs_ HB.out hb); (try clear hb); (try clear hb2); (try clear hk); (try clear hi); obtain ⟨hcz21_0, hcz21_1, hfz21_0, hfz21_1⟩ := bc2 BK101.out) | (go_at_call 32; (with_reducible refine (strata_Preds.calls k _ _ l0_0 _ _ l0_1 t104 _ ?side1 ?side2 ?side3 ?side4 A6.out).mono ?_); (case side1 => repeat (first | exact (Kd.C_below HR0_0.out HB.out) | (with_reducible refine Kd.C_alloc ?_ _) | (with_reducible refine Kd.C_drewN ?_ _) | (with_reducible refine Kd.C_drew ?_))); (case side2 => exact HC0_0.out); (case side3 => repeat (first | exact (Kd.C_below HR0_1.out HB.out) | (with_reducible refine Kd.C_alloc ?_ _) | (with_reducible refine Kd.C_drewN ?_ _) | (with_reducible refine Kd.C_drew ?_))); (case side4 => exact HC0_1.out); rintro e w22 ⟨v105, rfl, ho0, hb⟩; have HO106 := am (Kd.R_lower ho0 (below_size (pL HB.out))); replace BK101 := am (bb_ BK101.out hb); replace HB := am (bs_ HB.out hb); (try clear hb); (try clear hb2); (try clear hk); (try clear hi); (try clear ho0); obtain ⟨Ao23, co23, eo23⟩ := Kd.R_slice HO106.out; subst eo23; obtain ⟨hcz24_0, hcz24_1, hfz24_0, hfz24_1⟩ := bc2 BK101.out) | (go_at_call 35; (with_reducible refine (lambrequinref11_Edges.calls k _ _ l0_0 _ _ l0_1 0 t107 _ ?side1 ?side2 ?side3 ?side4 A15.out).mono ?_); (case side1 => repeat (first | exact (Kd.C_below HR0_0.out HB.out) | (with_reducible refine Kd.C_alloc ?_ _) | (with_reducible refine Kd.C_drewN ?_ _) | (with_reducible refine Kd.C_drew ?_))); (case side2 => exact HC0_0.out); (case side3 => repeat (first | exact (Kd.C_below HR0_1.out HB.out) | (with_reducible refine Kd.C_alloc ?_ _) | (with_reducible refine Kd.C_drewN ?_ _) | (with_reducible refine Kd.C_drew ?_))); (case side4 => exact HC0_1.out); rintro e w25 ⟨v108, rfl, ho0, hb⟩; replace HO106 := am (Rb_ HO106.out hb); have HO109 := am (Kd.R_lower ho0 (below_size (pL HB.out))); replace BK101 := am (bb_ BK101.out hb); replace HB := am (bs_ HB.out hb); (try clear hb); (try clear hb2); (try clear hk); (try clear hi); (try clear ho0); obtain ⟨hcz26_0, hcz26_1, hfz26_0, hfz26_1⟩ := bc2 BK101.out) | (go_at_call 35; (with_reducible refine (lambrequinref11_Edges.calls k _ _ l0_0 _ _ l0_1 2 t110 _ ?side1 ?side2 ?side3 ?side4 A16.out).mono ?_); (case side1 => repeat (first | exact (Kd.C_below HR0_0.out HB.out) | (with_reducible refine Kd.C_alloc ?_ _) | (with_reducible refine Kd.C_drewN ?_ _) | (with_reducible refine Kd.C_drew ?_))); (case side2 => exact HC0_0.out); (case side3 => repeat (first | exact (Kd.C_below HR0_1.out HB.out) | (with_reducible refine Kd.C_alloc ?_ _) | (with_reducible refine Kd.C_drewN ?_ _) | (with_reducible refine Kd.C_drew ?_))); (case side4 => exact HC0_1.out); rintro e w27 ⟨v111, rfl, ho0, hb⟩; replace HO106 := am (Rb_ HO106.out hb); have HO112 := am (Kd.R_lower (Kd.R_new' ho0 (Kd.R_lt (pR HO109.out))) (below_size (pL HB.out))); replace HO109 := am (Kd.R_elder' (pR HO109.out) (Kd.R_base ho0) hb); replace BK101 := am (bb_ BK101.out hb); replace HB := am (bs_ HB.out hb); (try clear hb); (try clear hb2); (try clear hk); (try clear hi); (try clear ho0)))
   repeat (go_quiet (first | ((with_reducible refine gate_dst (N := 2) rfl ?_); (try (refine gate_guard (by rfl) ?_; dsimp only)); refine box_event ?hg (N := 2) ?hd (cs := #[.slice A0_0 l0_0.length c0_0, .slice A0_1 l0_1.length c0_1]) (t := 50) ?hr ?_; (case hd => rfl); (case hg => rfl); (case hr => first | (go_simp; done) | (go_simp; rfl)); intro gb101 hg w17 hbox hb; have BK101 := am (hbox); have GW101 := am (gw_ hg HB.out); have GE101 := GW101; replace HB := am (bs_ HB.out hb); clear hb hbox hg) | (go_at_call 27; (with_reducible refine (lambrequinlaw11_shown.calls k  t102 _ A3.out).mono ?_); rintro e w18 ⟨rfl, hb⟩; replace BK101 := am (bb_ BK101.out hb); replace HB := am (bs_ HB.out hb); (try clear hb); (try clear hb2); (try clear hk); (try clear hi); obtain ⟨hcz19_0, hcz19_1, hfz19_0, hfz19_1⟩ := bc2 BK101.out) | (go_at_call 28; (with_reducible refine (lambrequinlaw11_few.calls k _ _ l0_0 _ _ l0_1 true _ ?side1 ?side2 ?side3 ?side4 A4.out).mono ?_); (case side1 => repeat (first | exact (Kd.C_below HR0_0.out HB.out) | (with_reducible refine Kd.C_alloc ?_ _) | (with_reducible refine Kd.C_drewN ?_ _) | (with_reducible refine Kd.C_drew ?_))); (case side2 => exact HC0_0.out); (case side3 => repeat (first | exact (Kd.C_below HR0_1.out HB.out) | (with_reducible refine Kd.C_alloc ?_ _) | (with_reducible refine Kd.C_drewN ?_ _) | (with_reducible refine Kd.C_drew ?_))); (case side4 => exact HC0_1.out); rintro e w20 ⟨rfl, hb⟩; replace BK101 := am (bb_ BK101.out hb); replace HB := am (bs_ HB.out hb); (try clear hb); (try clear hb2); (try clear hk); (try clear hi); obtain ⟨hcz21_0, hcz21_1, hfz21_0, hfz21_1⟩ := bc2 BK101.out) | (go_at_call 32; (with_reducible refine (strata_Preds.calls k _ _ l0_0 _ _ l0_1 t104 _ ?side1 ?side2 ?side3 ?side4 A6.out).mono ?_); (case side1 => repeat (first | exact (Kd.C_below HR0_0.out HB.out) | (with_reducible refine Kd.C_alloc ?_ _) | (with_reducible refine Kd.C_drewN ?_ _) | (with_reducible refine Kd.C_drew ?_))); (case side2 => exact HC0_0.out); (case side3 => repeat (first | exact (Kd.C_below HR0_1.out HB.out) | (with_reducible refine Kd.C_alloc ?_ _) | (with_reducible refine Kd.C_drewN ?_ _) | (with_reducible refine Kd.C_drew ?_))); (case side4 => exact HC0_1.out); rintro e w22 ⟨v105, rfl, ho0, hb⟩; have HO106 := am (Kd.R_lower ho0 (below_size (pL HB.out))); replace BK101 := am (bb_ BK101.out hb); replace HB := am (bs_ HB.out hb); (try clear hb); (try clear hb2); (try clear hk); (try clear hi); (try clear ho0); obtain ⟨Ao23, co23, eo23⟩ := Kd.R_slice HO106.out; subst eo23; obtain ⟨hcz24_0, hcz24_1, hfz24_0, hfz24_1⟩ := bc2 BK101.out) | (go_at_call 35; (with_reducible refine (lambrequinref11_Edges.calls k _ _ l0_0 _ _ l0_1 0 t107 _ ?side1 ?side2 ?side3 ?side4 A15.out).mono ?_); (case side1 => repeat (first | exact (Kd.C_below HR0_0.out HB.out) | (with_reducible refine Kd.C_alloc ?_ _) | (with_reducible refine Kd.C_drewN ?_ _) | (with_reducible refine Kd.C_drew ?_))); (case side2 => exact HC0_0.out); (case side3 => repeat (first | exact (Kd.C_below HR0_1.out HB.out) | (with_reducible refine Kd.C_alloc ?_ _) | (with_reducible refine Kd.C_drewN ?_ _) | (with_reducible refine Kd.C_drew ?_))); (case side4 => exact HC0_1.out); rintro e w25 ⟨v108, rfl, ho0, hb⟩; replace HO106 := am (Rb_ HO106.out hb); have HO109 := am (Kd.R_lower ho0 (below_size (pL HB.out))); replace BK101 := am (bb_ BK101.out hb); replace HB := am (bs_ HB.out hb); (try clear hb); (try clear hb2); (try clear hk); (try clear hi); (try clear ho0); obtain ⟨hcz26_0, hcz26_1, hfz26_0, hfz26_1⟩ := bc2 BK101.out) | (go_at_call 35; (with_reducible refine (lambrequinref11_Edges.calls k _ _ l0_0 _ _ l0_1 2 t110 _ ?side1 ?side2 ?side3 ?side4 A16.out).mono ?_); (case side1 => repeat (first | exact (Kd.C_below HR0_0.out HB.out) | (with_reducible refine Kd.C_alloc ?_ _) | (with_reducible refine Kd.C_drewN ?_ _) | (with_reducible refine Kd.C_drew ?_))); (case side2 => exact HC0_0.out); (case side3 => repeat (first | exact (Kd.C_below HR0_1.out HB.out) | (with_reducible refine Kd.C_alloc ?_ _) | (with_reducible refine Kd.C_drewN ?_ _) | (with_reducible refine Kd.C_drew ?_))); (case side4 => exact HC0_1.out); rintro e w27 ⟨v111, rfl, ho0, hb⟩; replace HO106 := am (Rb_ HO106.out hb); have HO112 := am (Kd.R_lower (Kd.R_new' ho0 (Kd.R_lt (pR HO109.out))) (below_size (pL HB.out))); replace HO109 := am (Kd.R_elder' (pR HO109.out) (Kd.R_base ho0) hb); replace BK101 := am (bb_ BK101.out hb); replace HB := am (bs_ HB.out hb); (try clear hb); (try clear hb2); (try clear hk); (try clear hi); (try clear ho0))); try go_wp2_with (first | ((with_reducible refine gate_dst (N := 2) rfl ?_); (try (refine gate_guard (by rfl) ?_; dsimp only)); refine box_event ?hg (N := 2) ?hd (cs := #[.slice A0_0 l0_0.length c0_0, .slice A0_1 l0_1.length c0_1]) (t := 50) ?hr ?_; (case hd => rfl); (case hg => rfl); (case hr => first | (go_simp; done) | (go_simp; rfl)); intro gb101 hg w17 hbox hb; have BK101 := am (hbox); have GW101 := am (gw_ hg HB.out); have GE101 := GW101; replace HB := am (bs_ HB.out hb); clear hb hbox hg) | (go_at_call 27; (with_reducible refine (lambrequinlaw11_shown.calls k  t102 _ A3.out).mono ?_); rintro e w18 ⟨rfl, hb⟩; replace BK101 := am (bb_ BK101.out hb); replace HB := am (bs_ HB.out hb); (try clear hb); (try clear hb2); (try clear hk); (try clear hi); obtain ⟨hcz19_0, hcz19_1, hfz19_0, hfz19_1⟩ := bc2 BK101.out) | (go_at_call 28; (with_reducible refine (lambrequinlaw11_few.calls k _ _ l0_0 _ _ l0_1 true _ ?side1 ?side2 ?side3 ?side4 A4.out).mono ?_); (case side1 => repeat (first | exact (Kd.C_below HR0_0.out HB.out) | (with_reducible refine Kd.C_alloc ?_ _) | (with_reducible refine Kd.C_drewN ?_ _) | (with_reducible refine Kd.C_drew ?_))); (case side2 => exact HC0_0.out); (case side3 => repeat (first | exact (Kd.C_below HR0_1.out HB.out) | (with_reducible refine Kd.C_alloc ?_ _) | (with_reducible refine Kd.C_drewN ?_ _) | (with_reducible refine Kd.C_drew ?_))); (case side4 => exact HC0_1.out); rintro e w20 ⟨rfl, hb⟩; replace BK101 := am (bb_ BK101.out hb); replace HB := am (bs_ HB.out hb); (try clear hb); (try clear hb2); (try clear hk); (try clear hi); obtain ⟨hcz21_0, hcz21_1, hfz21_0, hfz21_1⟩ := bc2 BK101.out) | (go_at_call 32; (with_reducible refine (strata_Preds.calls k _ _ l0_0 _ _ l0_1 t104 _ ?side1 ?side2 ?side3 ?side4 A6.out).mono ?_); (case side1 => repeat (first | exact (Kd.C_below HR0_0.out HB.out) | (with_reducible refine Kd.C_alloc ?_ _) | (with_reducible refine Kd.C_drewN ?_ _) | (with_reducible refine Kd.C_drew ?_))); (case side2 => exact HC0_0.out); (case side3 => repeat (first | exact (Kd.C_below HR0_1.out HB.out) | (with_reducible refine Kd.C_alloc ?_ _) | (with_reducible refine Kd.C_drewN ?_ _) | (with_reducible refine Kd.C_drew ?_))); (case side4 => exact HC0_1.out); rintro e w22 ⟨v105, rfl, ho0, hb⟩; have HO106 := am (Kd.R_lower ho0 (below_size (pL HB.out))); replace BK101 := am (bb_ BK101.out hb); replace HB := am (bs_ HB.out hb); (try clear hb); (try clear hb2); (try clear hk); (try clear hi); (try clear ho0); obtain ⟨Ao23, co23, eo23⟩ := Kd.R_slice HO106.out; subst eo23; obtain ⟨hcz24_0, hcz24_1, hfz24_0, hfz24_1⟩ := bc2 BK101.out) | (go_at_call 35; (with_reducible refine (lambrequinref11_Edges.calls k _ _ l0_0 _ _ l0_1 0 t107 _ ?side1 ?side2 ?side3 ?side4 A15.out).mono ?_); (case side1 => repeat (first | exact (Kd.C_below HR0_0.out HB.out) | (with_reducible refine Kd.C_alloc ?_ _) | (with_reducible refine Kd.C_drewN ?_ _) | (with_reducible refine Kd.C_drew ?_))); (case side2 => exact HC0_0.out); (case side3 => repeat (first | exact (Kd.C_below HR0_1.out HB.out) | (with_reducible refine Kd.C_alloc ?_ _) | (with_reducible refine Kd.C_drewN ?_ _) | (with_reducible refine Kd.C_drew ?_))); (case side4 => exact HC0_1.out); rintro e w25 ⟨v108, rfl, ho0, hb⟩; replace HO106 := am (Rb_ HO106.out hb); have HO109 := am (Kd.R_lower ho0 (below_size (pL HB.out))); replace BK101 := am (bb_ BK101.out hb); replace HB := am (bs_ HB.out hb); (try clear hb); (try clear hb2); (try clear hk); (try clear hi); (try clear ho0); obtain ⟨hcz26_0, hcz26_1, hfz26_0, hfz26_1⟩ := bc2 BK101.out) | (go_at_call 35; (with_reducible refine (lambrequinref11_Edges.calls k _ _ l0_0 _ _ l0_1 2 t110 _ ?side1 ?side2 ?side3 ?side4 A16.out).mono ?_); (case side1 => repeat (first | exact (Kd.C_below HR0_0.out HB.out) | (with_reducible refine Kd.C_alloc ?_ _) | (with_reducible refine Kd.C_drewN ?_ _) | (with_reducible refine Kd.C_drew ?_))); (case side2 => exact HC0_0.out); (case side3 => repeat (first | exact (Kd.C_below HR0_1.out HB.out) | (with_reducible refine Kd.C_alloc ?_ _) | (with_reducible refine Kd.C_drewN ?_ _) | (with_reducible refine Kd.C_drew ?_))); (case side4 => exact HC0_1.out); rintro e w27 ⟨v111, rfl, ho0, hb⟩; replace HO106 := am (Rb_ HO106.out hb); have HO112 := am (Kd.R_lower (Kd.R_new' ho0 (Kd.R_lt (pR HO109.out))) (below_size (pL HB.out))); replace HO109 := am (Kd.R_elder' (pR HO109.out) (Kd.R_base ho0) hb); replace BK101 := am (bb_ BK101.out hb); replace HB := am (bs_ HB.out hb); (try clear hb); (try clear hb2); (try clear hk); (try clear hi); (try clear ho0))))
   go_loopg [9] k (fun kq v9 w' => ∃ (x9_1 : Int), v9 = .int .i64 x9_1 ∧ Aside0 (lambrequinlaw11_StrataLeast.l0 kq l1 t102 t104 t107 t110 x9_1 l0_0 l0_1 = some r) ∧ Aside0 (kq ≤ k) ∧ Aside0 (Kd.R Kd.string 9 w' w.heap.size (fun _ => True) (.slice Ao23 t104.length co23) t104) ∧ Aside0 (Kd.R k27 27 w' w.heap.size (fun k_ => some k_ ≠ (v111 : Value).ownBlock) v108 t107) ∧ Aside0 (Kd.R k27 27 w' w.heap.size (fun k_ => some k_ ≠ (v108 : Value).ownBlock) v111 t110) ∧ Aside0 (w'.heap[gb101]? = some (.cells #[(.slice A0_0 l0_0.length c0_0), (.slice A0_1 l0_1.length c0_1)] 50 (0, 0))) ∧ Aside0 (Below w.heap.size w w'))
   case atStart => exact ⟨(0), rs_, H', ⟨Nat.le_refl _⟩, ⟨pR HO106.out⟩, ⟨by (with_reducible repeat (first | apply Ra | apply Rn | apply Rd)); exact Kd.R_mono HO109.out (fun _ hk => hk.2)⟩, ⟨by (with_reducible repeat (first | apply Ra | apply Rn | apply Rd)); exact Kd.R_mono HO112.out (fun _ hk => hk.2)⟩, ⟨pB BK101.out⟩, ⟨pL HB.out⟩⟩
   case round =>
    clear H'
    try clear c1
    try clear p2
    try clear c5
    try clear c7
    try clear c7b0
    try clear c7b1
    try clear c11
    try clear hcz10_0
    try clear hcz10_1
    try clear hcz12_0
    try clear hcz12_1
    try clear hcz19_0
    try clear hcz19_1
    try clear hcz21_0
    try clear hcz21_1
    try clear hcz24_0
    try clear hcz24_1
    try clear hcz26_0
    try clear hcz26_1
    try clear hfz10_0
    try clear hfz10_1
    try clear hfz12_0
    try clear hfz12_1
    try clear hfz19_0
    try clear hfz19_1
    try clear hfz21_0
    try clear hfz21_1
    try clear hfz24_0
    try clear hfz24_1
    try clear hfz26_0
    try clear hfz26_1
    obtain ⟨x9_1, rfl, HA, HK1, HO_6, HO_7, HO_8, BK101, HB⟩ := hrel
    cases gk with
    | zero => exact absurd HA.out (by simp [lambrequinlaw11_StrataLeast.l0])
    | succ k1 =>
     have H := HA.out
     clear HA
     simp only [lambrequinlaw11_StrataLeast.l0] at H
     by_cases c28 : x9_1 < (t107.length : Int)
     ·rw [if_pos c28] at H
      have c28b0 : decide (x9_1 < (t107.length : Int)) = true := decide_eq_true c28
      clear c28
      by_cases c29 : 0 ≤ x9_1
      ·rw [if_pos c29] at H
       have c29b0 : decide (0 ≤ x9_1) = true := decide_eq_true c29
       clear c29
       by_cases c30 : 0 ≤ ((rd_T27 t107 x9_1).fst)
       ·rw [if_pos c30] at H
        have c30b0 : decide (0 ≤ ((rd_T27 t107 x9_1).fst)) = true := decide_eq_true c30
        clear c30
        by_cases c31 : ((rd_T27 t107 x9_1).fst) < (l1.length : Int)
        ·rw [if_pos c31] at H
         have c31b0 : decide (((rd_T27 t107 x9_1).fst) < (l1.length : Int)) = true := decide_eq_true c31
         clear c31
         by_cases c32 : 0 ≤ ((rd_T27 t107 x9_1).snd)
         ·rw [if_pos c32] at H
          have c32b0 : decide (0 ≤ ((rd_T27 t107 x9_1).snd)) = true := decide_eq_true c32
          clear c32
          by_cases c33 : ((rd_T27 t107 x9_1).snd) < (l1.length : Int)
          ·rw [if_pos c33] at H
           have c33b0 : decide (((rd_T27 t107 x9_1).snd) < (l1.length : Int)) = true := decide_eq_true c33
           clear c33
           by_cases c34 : (rd l1 ((rd_T27 t107 x9_1).fst)) < (rd l1 ((rd_T27 t107 x9_1).snd))
           ·rw [if_pos c34] at H
            have c34b0 : decide ((rd l1 ((rd_T27 t107 x9_1).fst)) < (rd l1 ((rd_T27 t107 x9_1).snd))) = true := decide_eq_true c34
            clear c34
            obtain rfl := Option.some.inj H
            obtain ⟨Ao35, co35, eo35⟩ := Kd.R_slice HO_7.out
            subst eo35
            have p113 : 0 ≤ (x9_1 : Int) := dt_
            have q113 : x9_1 < (t107.length : Int) := dt_
            obtain ⟨ad113, e113, hx113_0, hx113_1⟩ := at_T27 (Kd.R_reads' HO_7.out).2.2 x9_1 p113 q113
            cases e113
            replace p113 := eq_true p113
            replace q113 := eq_true q113
            have p114 : 0 ≤ (((rd_T27 t107 x9_1).fst) : Int) := dt_
            have q114 : ((rd_T27 t107 x9_1).fst) < (l1.length : Int) := dt_
            obtain ⟨ad114, e114, hx114_0⟩ := Kd.at_int HR1.out ((rd_T27 t107 x9_1).fst) p114 q114
            cases e114
            replace hx114_0 := up_ HB.out hx114_0
            replace p114 := eq_true p114
            replace q114 := eq_true q114
            have p115 : 0 ≤ (x9_1 : Int) := dt_
            have q115 : x9_1 < (t107.length : Int) := dt_
            obtain ⟨ad115, e115, hx115_0, hx115_1⟩ := at_T27 (Kd.R_reads' HO_7.out).2.2 x9_1 p115 q115
            obtain rfl : ad113 = ad115 := (by injection e115)
            replace p115 := eq_true p115
            replace q115 := eq_true q115
            have p116 : 0 ≤ (((rd_T27 t107 x9_1).snd) : Int) := dt_
            have q116 : ((rd_T27 t107 x9_1).snd) < (l1.length : Int) := dt_
            obtain ⟨ad116, e116, hx116_0⟩ := Kd.at_int HR1.out ((rd_T27 t107 x9_1).snd) p116 q116
            obtain rfl : ad114 = ad116 := (by injection e116)
            replace hx116_0 := up_ HB.out hx116_0
            replace p116 := eq_true p116
            replace q116 := eq_true q116
            go_wp2
            repeat (go_quiet (fail); try go_wp2)
            go_ret
            exact ⟨by first | rfl | (simp [errW_none, errW_some] <;> rfl) | (simp [*, errW_none, errW_some] <;> rfl), pL HB.out⟩
           ·rw [if_neg c34] at H
            have c34b0 : decide ((rd l1 ((rd_T27 t107 x9_1).fst)) < (rd l1 ((rd_T27 t107 x9_1).snd))) = false := decide_eq_false c34
            clear c34
            have H' := am H
            clear H
            obtain ⟨Ao36, co36, eo36⟩ := Kd.R_slice HO_7.out
            subst eo36
            have p113 : 0 ≤ (x9_1 : Int) := dt_
            have q113 : x9_1 < (t107.length : Int) := dt_
            obtain ⟨ad113, e113, hx113_0, hx113_1⟩ := at_T27 (Kd.R_reads' HO_7.out).2.2 x9_1 p113 q113
            cases e113
            replace p113 := eq_true p113
            replace q113 := eq_true q113
            have p114 : 0 ≤ (((rd_T27 t107 x9_1).fst) : Int) := dt_
            have q114 : ((rd_T27 t107 x9_1).fst) < (l1.length : Int) := dt_
            obtain ⟨ad114, e114, hx114_0⟩ := Kd.at_int HR1.out ((rd_T27 t107 x9_1).fst) p114 q114
            cases e114
            replace hx114_0 := up_ HB.out hx114_0
            replace p114 := eq_true p114
            replace q114 := eq_true q114
            have p115 : 0 ≤ (x9_1 : Int) := dt_
            have q115 : x9_1 < (t107.length : Int) := dt_
            obtain ⟨ad115, e115, hx115_0, hx115_1⟩ := at_T27 (Kd.R_reads' HO_7.out).2.2 x9_1 p115 q115
            obtain rfl : ad113 = ad115 := (by injection e115)
            replace p115 := eq_true p115
            replace q115 := eq_true q115
            have p116 : 0 ≤ (((rd_T27 t107 x9_1).snd) : Int) := dt_
            have q116 : ((rd_T27 t107 x9_1).snd) < (l1.length : Int) := dt_
            obtain ⟨ad116, e116, hx116_0⟩ := Kd.at_int HR1.out ((rd_T27 t107 x9_1).snd) p116 q116
            obtain rfl : ad114 = ad116 := (by injection e116)
            replace hx116_0 := up_ HB.out hx116_0
            replace p116 := eq_true p116
            replace q116 := eq_true q116
            go_wp2
            repeat (go_quiet (fail); try go_wp2)
            go_roundg k1
            case measure => have := HK1.out; omega
            case rel => exact ⟨(wrap64 (x9_1 + 1)), rs_, H', ⟨by have := HK1.out; omega⟩, ⟨pR HO_6.out⟩, ⟨pR HO_7.out⟩, ⟨pR HO_8.out⟩, ⟨pB BK101.out⟩, ⟨pL HB.out⟩⟩
          ·rw [if_neg c33] at H
           exact absurd H (by simp)
         ·rw [if_neg c32] at H
          exact absurd H (by simp)
        ·rw [if_neg c31] at H
         exact absurd H (by simp)
       ·rw [if_neg c30] at H
        exact absurd H (by simp)
      ·rw [if_neg c29] at H
       exact absurd H (by simp)
     ·rw [if_neg c28] at H
      have c28b0 : decide (x9_1 < (t107.length : Int)) = false := decide_eq_false c28
      clear c28
      have H' := am H
      clear H
      obtain ⟨Ao37, co37, eo37⟩ := Kd.R_slice HO_7.out
      subst eo37
      go_wp2
      repeat (go_quiet (fail); try go_wp2)
      go_loopg [10] k1 (fun kq v10 w' => ∃ (x10_2 : Int), v10 = .int .i64 x10_2 ∧ Aside0 (lambrequinlaw11_StrataLeast.l1 kq l1 t102 t104 t110 x10_2 l0_0 l0_1 = some r) ∧ Aside0 (kq ≤ k1) ∧ Aside0 (Kd.R Kd.string 9 w' w.heap.size (fun _ => True) (.slice Ao23 t104.length co23) t104) ∧ Aside0 (Kd.R k27 27 w' w.heap.size (fun _ => True) v111 t110) ∧ Aside0 (w'.heap[gb101]? = some (.cells #[(.slice A0_0 l0_0.length c0_0), (.slice A0_1 l0_1.length c0_1)] 50 (0, 0))) ∧ Aside0 (Below w.heap.size w w'))
      case atStart => exact ⟨(0), rs_, H', ⟨Nat.le_refl _⟩, ⟨pR HO_6.out⟩, ⟨by (with_reducible repeat (first | apply Ra | apply Rn | apply Rd)); exact Kd.R_mono HO_8.out (fun _ hk => trivial)⟩, ⟨pB BK101.out⟩, ⟨pL HB.out⟩⟩
      case round =>
       clear H'
       try clear c1
       try clear p1
       try clear q1
       try clear hx1
       try clear c2
       try clear p2
       try clear c3
       try clear c5
       try clear p6
       try clear c7
       try clear c7b0
       try clear c7b1
       try clear c11
       try clear p11
       try clear q11
       try clear hx11
       try clear c28
       try clear c28b0
       try clear c29
       try clear c29b0
       try clear c30
       try clear c30b0
       try clear c31
       try clear c31b0
       try clear c32
       try clear c32b0
       try clear c33
       try clear c33b0
       try clear c34
       try clear c34b0
       try clear hcz10_0
       try clear hcz10_1
       try clear hcz12_0
       try clear hcz12_1
       try clear hcz19_0
       try clear hcz19_1
       try clear hcz21_0
       try clear hcz21_1
       try clear hcz24_0
       try clear hcz24_1
       try clear hcz26_0
       try clear hcz26_1
       try clear hfz10_0
       try clear hfz10_1
       try clear hfz12_0
       try clear hfz12_1
       try clear hfz19_0
       try clear hfz19_1
       try clear hfz21_0
       try clear hfz21_1
       try clear hfz24_0
       try clear hfz24_1
       try clear hfz26_0
       try clear hfz26_1
       try clear hx113_0
       try clear hx113_1
       try clear hx114_0
       try clear hx115_0
       try clear hx115_1
       try clear hx116_0
       try clear p113
       try clear p114
       try clear p115
       try clear p116
       try clear p2
       try clear q113
       try clear q114
       try clear q115
       try clear q116
       obtain ⟨x10_2, rfl, HA, HK2, HO_6, HO_8, BK101, HB⟩ := hrel
       cases gk with
       | zero => exact absurd HA.out (by simp [lambrequinlaw11_StrataLeast.l1])
       | succ k2 =>
        have H := HA.out
        clear HA
        simp only [lambrequinlaw11_StrataLeast.l1] at H
        by_cases c38 : x10_2 < (t110.length : Int)
        ·rw [if_pos c38] at H
         have c38b0 : decide (x10_2 < (t110.length : Int)) = true := decide_eq_true c38
         clear c38
         by_cases c39 : 0 ≤ x10_2
         ·rw [if_pos c39] at H
          have c39b0 : decide (0 ≤ x10_2) = true := decide_eq_true c39
          clear c39
          by_cases c40 : 0 ≤ ((rd_T27 t110 x10_2).fst)
          ·rw [if_pos c40] at H
           have c40b0 : decide (0 ≤ ((rd_T27 t110 x10_2).fst)) = true := decide_eq_true c40
           clear c40
           by_cases c41 : ((rd_T27 t110 x10_2).fst) < (l1.length : Int)
           ·rw [if_pos c41] at H
            have c41b0 : decide (((rd_T27 t110 x10_2).fst) < (l1.length : Int)) = true := decide_eq_true c41
            clear c41
            by_cases c42 : 0 ≤ ((rd_T27 t110 x10_2).snd)
            ·rw [if_pos c42] at H
             have c42b0 : decide (0 ≤ ((rd_T27 t110 x10_2).snd)) = true := decide_eq_true c42
             clear c42
             by_cases c43 : ((rd_T27 t110 x10_2).snd) < (l1.length : Int)
             ·rw [if_pos c43] at H
              have c43b0 : decide (((rd_T27 t110 x10_2).snd) < (l1.length : Int)) = true := decide_eq_true c43
              clear c43
              by_cases c44 : (rd l1 ((rd_T27 t110 x10_2).fst)) = (rd l1 ((rd_T27 t110 x10_2).snd))
              ·rw [if_pos c44] at H
               have c44b0 : ((rd l1 ((rd_T27 t110 x10_2).fst)) == (rd l1 ((rd_T27 t110 x10_2).snd))) = true := beq_iff_eq.mpr c44
               have c44b1 : ((rd l1 ((rd_T27 t110 x10_2).fst)) != (rd l1 ((rd_T27 t110 x10_2).snd))) = false := bne_eq_false_iff_eq.mpr c44
               clear c44
               obtain rfl := Option.some.inj H
               obtain ⟨Ao45, co45, eo45⟩ := Kd.R_slice HO_8.out
               subst eo45
               have p117 : 0 ≤ (x10_2 : Int) := dt_
               have q117 : x10_2 < (t110.length : Int) := dt_
               obtain ⟨ad117, e117, hx117_0, hx117_1⟩ := at_T27 (Kd.R_reads' HO_8.out).2.2 x10_2 p117 q117
               cases e117
               replace p117 := eq_true p117
               replace q117 := eq_true q117
               have p118 : 0 ≤ (((rd_T27 t110 x10_2).fst) : Int) := dt_
               have q118 : ((rd_T27 t110 x10_2).fst) < (l1.length : Int) := dt_
               obtain ⟨ad118, e118, hx118_0⟩ := Kd.at_int HR1.out ((rd_T27 t110 x10_2).fst) p118 q118
               cases e118
               replace hx118_0 := up_ HB.out hx118_0
               replace p118 := eq_true p118
               replace q118 := eq_true q118
               have p119 : 0 ≤ (x10_2 : Int) := dt_
               have q119 : x10_2 < (t110.length : Int) := dt_
               obtain ⟨ad119, e119, hx119_0, hx119_1⟩ := at_T27 (Kd.R_reads' HO_8.out).2.2 x10_2 p119 q119
               obtain rfl : ad117 = ad119 := (by injection e119)
               replace p119 := eq_true p119
               replace q119 := eq_true q119
               have p120 : 0 ≤ (((rd_T27 t110 x10_2).snd) : Int) := dt_
               have q120 : ((rd_T27 t110 x10_2).snd) < (l1.length : Int) := dt_
               obtain ⟨ad120, e120, hx120_0⟩ := Kd.at_int HR1.out ((rd_T27 t110 x10_2).snd) p120 q120
               obtain rfl : ad118 = ad120 := (by injection e120)
               replace hx120_0 := up_ HB.out hx120_0
               replace p120 := eq_true p120
               replace q120 := eq_true q120
               go_wp2
               repeat (go_quiet (fail); try go_wp2)
               go_ret
               exact ⟨by first | rfl | (simp [errW_none, errW_some] <;> rfl) | (simp [*, errW_none, errW_some] <;> rfl), pL HB.out⟩
              ·rw [if_neg c44] at H
               have c44b0 : ((rd l1 ((rd_T27 t110 x10_2).fst)) == (rd l1 ((rd_T27 t110 x10_2).snd))) = false := beq_eq_false_iff_ne.mpr c44
               have c44b1 : ((rd l1 ((rd_T27 t110 x10_2).fst)) != (rd l1 ((rd_T27 t110 x10_2).snd))) = true := bne_iff_ne.mpr c44
               have H' := am H
               clear H
               obtain ⟨Ao46, co46, eo46⟩ := Kd.R_slice HO_8.out
               subst eo46
               have p117 : 0 ≤ (x10_2 : Int) := dt_
               have q117 : x10_2 < (t110.length : Int) := dt_
               obtain ⟨ad117, e117, hx117_0, hx117_1⟩ := at_T27 (Kd.R_reads' HO_8.out).2.2 x10_2 p117 q117
               cases e117
               replace p117 := eq_true p117
               replace q117 := eq_true q117
               have p118 : 0 ≤ (((rd_T27 t110 x10_2).fst) : Int) := dt_
               have q118 : ((rd_T27 t110 x10_2).fst) < (l1.length : Int) := dt_
               obtain ⟨ad118, e118, hx118_0⟩ := Kd.at_int HR1.out ((rd_T27 t110 x10_2).fst) p118 q118
               cases e118
               replace hx118_0 := up_ HB.out hx118_0
               replace p118 := eq_true p118
               replace q118 := eq_true q118
               have p119 : 0 ≤ (x10_2 : Int) := dt_
               have q119 : x10_2 < (t110.length : Int) := dt_
               obtain ⟨ad119, e119, hx119_0, hx119_1⟩ := at_T27 (Kd.R_reads' HO_8.out).2.2 x10_2 p119 q119
               obtain rfl : ad117 = ad119 := (by injection e119)
               replace p119 := eq_true p119
               replace q119 := eq_true q119
               have p120 : 0 ≤ (((rd_T27 t110 x10_2).snd) : Int) := dt_
               have q120 : ((rd_T27 t110 x10_2).snd) < (l1.length : Int) := dt_
               obtain ⟨ad120, e120, hx120_0⟩ := Kd.at_int HR1.out ((rd_T27 t110 x10_2).snd) p120 q120
               obtain rfl : ad118 = ad120 := (by injection e120)
               replace hx120_0 := up_ HB.out hx120_0
               replace p120 := eq_true p120
               replace q120 := eq_true q120
               go_wp2
               repeat (go_quiet (fail); try go_wp2)
               go_roundg k2
               case measure => have := HK1.out; have := HK2.out; omega
               case rel => exact ⟨(wrap64 (x10_2 + 1)), rs_, H', ⟨by have := HK1.out; have := HK2.out; omega⟩, ⟨pR HO_6.out⟩, ⟨pR HO_8.out⟩, ⟨pB BK101.out⟩, ⟨pL HB.out⟩⟩
             ·rw [if_neg c43] at H
              exact absurd H (by simp)
            ·rw [if_neg c42] at H
             exact absurd H (by simp)
           ·rw [if_neg c41] at H
            exact absurd H (by simp)
          ·rw [if_neg c40] at H
           exact absurd H (by simp)
         ·rw [if_neg c39] at H
          exact absurd H (by simp)
        ·rw [if_neg c38] at H
         have c38b0 : decide (x10_2 < (t110.length : Int)) = false := decide_eq_false c38
         clear c38
         replace H := Option.bind_eq_some_iff.mp H
         obtain ⟨⟨t121, t124, t127⟩, A470, H⟩ := H
         replace H : (if t127 = 0 then (lambrequinlaw11_StrataLeast.j2 k2 l1 t102 t121 ((t121.length : Int) != (t104.length : Int))) else (lambrequinlaw11_StrataLeast.j2 k2 l1 t102 t121 true)) = some r := H
         have A47 := am A470
         clear A470
         have HC48 := am H
         clear H
         obtain ⟨Ao49, co49, eo49⟩ := Kd.R_slice HO_8.out
         subst eo49
         obtain ⟨hcz50_0, hcz50_1, hfz50_0, hfz50_1⟩ := bc2 BK101.out
         go_upto_region 20 with (first | (go_at_call 29; (with_reducible refine (strata_Of.calls k2 _ _ l0_0 _ _ l0_1 t121 t124 t127 _ ?side1 ?side2 ?side3 ?side4 A47.out).mono ?_); (case side1 => repeat (first | exact (Kd.C_below HR0_0.out HB.out) | (with_reducible refine Kd.C_alloc ?_ _) | (with_reducible refine Kd.C_drewN ?_ _) | (with_reducible refine Kd.C_drew ?_))); (case side2 => exact HC0_0.out); (case side3 => repeat (first | exact (Kd.C_below HR0_1.out HB.out) | (with_reducible refine Kd.C_alloc ?_ _) | (with_reducible refine Kd.C_drewN ?_ _) | (with_reducible refine Kd.C_drew ?_))); (case side4 => exact HC0_1.out); rintro e w51 ⟨v122, v125, rfl, ho0, ho1, hb⟩; replace HO_8 := am (Rb_ HO_8.out hb); have HO123 := am (Kd.R_lower ho0 (below_size (pL HB.out))); have HO126 := am (Kd.R_lower (Kd.R_new' ho1 (Kd.R_lt (pR HO_6.out))) (below_size (pL HB.out))); replace HO_6 := am (Kd.R_elder' (pR HO_6.out) (Kd.R_base ho1) hb); replace BK101 := am (bb_ BK101.out hb); replace HB := am (bs_ HB.out hb); (try clear hb); (try clear hb2); (try clear hk); (try clear hi); (try clear ho0); (try clear ho1)))
         repeat (go_quiet (first | (go_at_call 29; (with_reducible refine (strata_Of.calls k2 _ _ l0_0 _ _ l0_1 t121 t124 t127 _ ?side1 ?side2 ?side3 ?side4 A47.out).mono ?_); (case side1 => repeat (first | exact (Kd.C_below HR0_0.out HB.out) | (with_reducible refine Kd.C_alloc ?_ _) | (with_reducible refine Kd.C_drewN ?_ _) | (with_reducible refine Kd.C_drew ?_))); (case side2 => exact HC0_0.out); (case side3 => repeat (first | exact (Kd.C_below HR0_1.out HB.out) | (with_reducible refine Kd.C_alloc ?_ _) | (with_reducible refine Kd.C_drewN ?_ _) | (with_reducible refine Kd.C_drew ?_))); (case side4 => exact HC0_1.out); rintro e w51 ⟨v122, v125, rfl, ho0, ho1, hb⟩; replace HO_8 := am (Rb_ HO_8.out hb); have HO123 := am (Kd.R_lower ho0 (below_size (pL HB.out))); have HO126 := am (Kd.R_lower (Kd.R_new' ho1 (Kd.R_lt (pR HO_6.out))) (below_size (pL HB.out))); replace HO_6 := am (Kd.R_elder' (pR HO_6.out) (Kd.R_base ho1) hb); replace BK101 := am (bb_ BK101.out hb); replace HB := am (bs_ HB.out hb); (try clear hb); (try clear hb2); (try clear hk); (try clear hi); (try clear ho0); (try clear ho1))); go_upto_region 20 with (first | (go_at_call 29; (with_reducible refine (strata_Of.calls k2 _ _ l0_0 _ _ l0_1 t121 t124 t127 _ ?side1 ?side2 ?side3 ?side4 A47.out).mono ?_); (case side1 => repeat (first | exact (Kd.C_below HR0_0.out HB.out) | (with_reducible refine Kd.C_alloc ?_ _) | (with_reducible refine Kd.C_drewN ?_ _) | (with_reducible refine Kd.C_drew ?_))); (case side2 => exact HC0_0.out); (case side3 => repeat (first | exact (Kd.C_below HR0_1.out HB.out) | (with_reducible refine Kd.C_alloc ?_ _) | (with_reducible refine Kd.C_drewN ?_ _) | (with_reducible refine Kd.C_drew ?_))); (case side4 => exact HC0_1.out); rintro e w51 ⟨v122, v125, rfl, ho0, ho1, hb⟩; replace HO_8 := am (Rb_ HO_8.out hb); have HO123 := am (Kd.R_lower ho0 (below_size (pL HB.out))); have HO126 := am (Kd.R_lower (Kd.R_new' ho1 (Kd.R_lt (pR HO_6.out))) (below_size (pL HB.out))); replace HO_6 := am (Kd.R_elder' (pR HO_6.out) (Kd.R_base ho1) hb); replace BK101 := am (bb_ BK101.out hb); replace HB := am (bs_ HB.out hb); (try clear hb); (try clear hb2); (try clear hk); (try clear hi); (try clear ho0); (try clear ho1))))
         (try simp only [Act.put, List.setIfInBounds_toArray, List.set_cons_zero, List.set_cons_succ])
         go_cut [94] (fun v94 wc => ∃ (kq : Nat) (x94_47 : Bool), v94 = .bool x94_47 ∧ Aside0 (lambrequinlaw11_StrataLeast.j2 kq l1 t102 t121 x94_47 = some r) ∧ Aside0 (kq ≤ k2) ∧ Aside0 (Kd.R (Kd.int .i64) 3 wc w.heap.size (fun _ => True) v122 t121) ∧ Aside0 (wc.heap[gb101]? = some (.cells #[(.slice A0_0 l0_0.length c0_0), (.slice A0_1 l0_1.length c0_1)] 50 (0, 0))) ∧ Aside0 (Below w.heap.size w wc))
         case first =>
          have H := HC48.out
          clear HC48
          by_cases c52 : t127 = 0
          ·rw [if_pos c52] at H
           have c52b0 : (t127 == 0) = true := beq_iff_eq.mpr c52
           have c52b1 : (t127 != 0) = false := bne_eq_false_iff_eq.mpr c52
           clear c52
           (first | rw [c52b0] | (simp only [i64_w, i32_w]; rw [c52b0]) | skip)
           have H' := am H
           clear H
           obtain ⟨Ao53, co53, eo53⟩ := Kd.R_slice HO123.out
           subst eo53
           go_wp2
           repeat (go_quiet (fail); try go_wp2)
           go_meet
           case rel => exact ⟨_, (((t121.length : Int) != (t104.length : Int))), rs_, H', ⟨by have := HK1.out; have := HK2.out; first | omega | exact Nat.le_refl _⟩, ⟨pR HO123.out⟩, ⟨pB BK101.out⟩, ⟨pL HB.out⟩⟩
          ·rw [if_neg c52] at H
           have c52b0 : (t127 == 0) = false := beq_eq_false_iff_ne.mpr c52
           have c52b1 : (t127 != 0) = true := bne_iff_ne.mpr c52
           (first | rw [c52b0] | (simp only [i64_w, i32_w]; rw [c52b0]) | skip)
           have H' := am H
           clear H
           go_wp2
           repeat (go_quiet (fail); try go_wp2)
           go_meet
           case rel => exact ⟨_, (true), rs_, H', ⟨by have := HK1.out; have := HK2.out; first | omega | exact Nat.le_refl _⟩, ⟨pR HO123.out⟩, ⟨pB BK101.out⟩, ⟨pL HB.out⟩⟩
         case rest =>
          clear HC48
          try clear c1
          try clear p1
          try clear q1
          try clear hx1
          try clear c2
          try clear p2
          try clear c3
          try clear c4
          try clear c5
          try clear p6
          try clear c7
          try clear c7b0
          try clear c7b1
          try clear c11
          try clear p11
          try clear q11
          try clear hx11
          try clear p12
          try clear q12
          try clear hx12
          try clear c28
          try clear c28b0
          try clear c29
          try clear c29b0
          try clear c30
          try clear c30b0
          try clear c31
          try clear c31b0
          try clear c32
          try clear c32b0
          try clear c33
          try clear c33b0
          try clear c34
          try clear c34b0
          try clear c38
          try clear c38b0
          try clear c39
          try clear c39b0
          try clear c40
          try clear c40b0
          try clear c41
          try clear c41b0
          try clear c42
          try clear c42b0
          try clear c43
          try clear c43b0
          try clear c44
          try clear c44b0
          try clear c44b1
          try clear c52
          try clear c52b0
          try clear c52b1
          try clear hcz10_0
          try clear hcz10_1
          try clear hcz12_0
          try clear hcz12_1
          try clear hcz19_0
          try clear hcz19_1
          try clear hcz21_0
          try clear hcz21_1
          try clear hcz24_0
          try clear hcz24_1
          try clear hcz26_0
          try clear hcz26_1
          try clear hcz50_0
          try clear hcz50_1
          try clear hfz10_0
          try clear hfz10_1
          try clear hfz12_0
          try clear hfz12_1
          try clear hfz19_0
          try clear hfz19_1
          try clear hfz21_0
          try clear hfz21_1
          try clear hfz24_0
          try clear hfz24_1
          try clear hfz26_0
          try clear hfz26_1
          try clear hfz50_0
          try clear hfz50_1
          try clear hx113_0
          try clear hx113_1
          try clear hx114_0
          try clear hx115_0
          try clear hx115_1
          try clear hx116_0
          try clear hx117_0
          try clear hx117_1
          try clear hx118_0
          try clear hx119_0
          try clear hx119_1
          try clear hx120_0
          try clear p1
          try clear p11
          try clear p113
          try clear p114
          try clear p115
          try clear p116
          try clear p117
          try clear p118
          try clear p119
          try clear p120
          try clear p2
          try clear p6
          try clear q1
          try clear q11
          try clear q113
          try clear q114
          try clear q115
          try clear q116
          try clear q117
          try clear q118
          try clear q119
          try clear q120
          obtain ⟨kq, x94_47, rfl, HA, HJ47, HO_11, BK101, HB⟩ := hcut
          cases kq with
          | zero => exact absurd HA.out (by simp [lambrequinlaw11_StrataLeast.j2])
          | succ kj47 =>
           have H := HA.out
           clear HA
           simp only [lambrequinlaw11_StrataLeast.j2] at H
           by_cases c54 : x94_47 = true
           ·subst c54
            have H1 : (some false) = some r := by rw [if_pos rfl] at H; exact H
            clear H
            have H := H1
            clear H1
            obtain rfl := Option.some.inj H
            go_wp2
            repeat (go_quiet (fail); try go_wp2)
            go_ret
            exact ⟨by first | rfl | (simp [errW_none, errW_some] <;> rfl) | (simp [*, errW_none, errW_some] <;> rfl), pL HB.out⟩
           ·replace c54 := Bool.eq_false_iff.mpr c54
            subst c54
            have H1 : (lambrequinlaw11_StrataLeast.l2 kj47 l1 t102 t121 0) = some r := by rw [if_neg (show ¬ (false = true) by decide)] at H; exact H
            clear H
            have H := H1
            clear H1
            have H' := am H
            clear H
            go_wp2
            repeat (go_quiet (fail); try go_wp2)
            go_loopg [14] kj47 (fun kq v14 w' => ∃ (x14_4 : Int), v14 = .int .i64 x14_4 ∧ Aside0 (lambrequinlaw11_StrataLeast.l2 kq l1 t102 t121 x14_4 = some r) ∧ Aside0 (kq ≤ kj47) ∧ Aside0 (Kd.R (Kd.int .i64) 3 w' w.heap.size (fun _ => True) v122 t121) ∧ Aside0 (w'.heap[gb101]? = some (.cells #[(.slice A0_0 l0_0.length c0_0), (.slice A0_1 l0_1.length c0_1)] 50 (0, 0))) ∧ Aside0 (Below w.heap.size w w'))
            case atStart => exact ⟨(0), rs_, H', ⟨Nat.le_refl _⟩, ⟨pR HO_11.out⟩, ⟨pB BK101.out⟩, ⟨pL HB.out⟩⟩
            case round =>
             clear H'
             try clear c1
             try clear p1
             try clear q1
             try clear hx1
             try clear c2
             try clear p2
             try clear c3
             try clear c4
             try clear c5
             try clear p6
             try clear c7
             try clear c7b0
             try clear c7b1
             try clear c11
             try clear p11
             try clear q11
             try clear hx11
             try clear p12
             try clear q12
             try clear hx12
             try clear c28
             try clear c28b0
             try clear c29
             try clear c29b0
             try clear c30
             try clear c30b0
             try clear c31
             try clear c31b0
             try clear c32
             try clear c32b0
             try clear c33
             try clear c33b0
             try clear c34
             try clear c34b0
             try clear c38
             try clear c38b0
             try clear c39
             try clear c39b0
             try clear c40
             try clear c40b0
             try clear c41
             try clear c41b0
             try clear c42
             try clear c42b0
             try clear c43
             try clear c43b0
             try clear c44
             try clear c44b0
             try clear c44b1
             try clear c52
             try clear c52b0
             try clear c52b1
             try clear c54
             try clear hcz10_0
             try clear hcz10_1
             try clear hcz12_0
             try clear hcz12_1
             try clear hcz19_0
             try clear hcz19_1
             try clear hcz21_0
             try clear hcz21_1
             try clear hcz24_0
             try clear hcz24_1
             try clear hcz26_0
             try clear hcz26_1
             try clear hcz50_0
             try clear hcz50_1
             try clear hfz10_0
             try clear hfz10_1
             try clear hfz12_0
             try clear hfz12_1
             try clear hfz19_0
             try clear hfz19_1
             try clear hfz21_0
             try clear hfz21_1
             try clear hfz24_0
             try clear hfz24_1
             try clear hfz26_0
             try clear hfz26_1
             try clear hfz50_0
             try clear hfz50_1
             try clear hx113_0
             try clear hx113_1
             try clear hx114_0
             try clear hx115_0
             try clear hx115_1
             try clear hx116_0
             try clear hx117_0
             try clear hx117_1
             try clear hx118_0
             try clear hx119_0
             try clear hx119_1
             try clear hx120_0
             try clear p1
             try clear p11
             try clear p113
             try clear p114
             try clear p115
             try clear p116
             try clear p117
             try clear p118
             try clear p119
             try clear p12
             try clear p120
             try clear p2
             try clear p6
             try clear q1
             try clear q11
             try clear q113
             try clear q114
             try clear q115
             try clear q116
             try clear q117
             try clear q118
             try clear q119
             try clear q12
             try clear q120
             obtain ⟨x14_4, rfl, HA, HK4, HO_11, BK101, HB⟩ := hrel
             cases gk with
             | zero => exact absurd HA.out (by simp [lambrequinlaw11_StrataLeast.l2])
             | succ k4 =>
              have H := HA.out
              clear HA
              simp only [lambrequinlaw11_StrataLeast.l2] at H
              by_cases c55 : x14_4 < (t121.length : Int)
              ·rw [if_pos c55] at H
               have c55b0 : decide (x14_4 < (t121.length : Int)) = true := decide_eq_true c55
               clear c55
               by_cases c56 : 0 ≤ x14_4
               ·rw [if_pos c56] at H
                have c56b0 : decide (0 ≤ x14_4) = true := decide_eq_true c56
                clear c56
                by_cases c57 : x14_4 < (l1.length : Int)
                ·rw [if_pos c57] at H
                 have c57b0 : decide (x14_4 < (l1.length : Int)) = true := decide_eq_true c57
                 clear c57
                 by_cases c58 : (rd t121 x14_4) > (wrap64 (rd l1 x14_4))
                 ·rw [if_pos c58] at H
                  have c58b0 : decide ((wrap64 (rd l1 x14_4)) < (rd t121 x14_4)) = true := decide_eq_true c58
                  clear c58
                  obtain rfl := Option.some.inj H
                  obtain ⟨Ao59, co59, eo59⟩ := Kd.R_slice HO_11.out
                  subst eo59
                  have p128 : 0 ≤ (x14_4 : Int) := dt_
                  have q128 : x14_4 < (t121.length : Int) := dt_
                  obtain ⟨ad128, e128, hx128_0⟩ := Kd.at_int (Kd.R_reads' HO_11.out).2.2 x14_4 p128 q128
                  cases e128
                  replace p128 := eq_true p128
                  replace q128 := eq_true q128
                  have p129 : 0 ≤ (x14_4 : Int) := dt_
                  have q129 : x14_4 < (l1.length : Int) := dt_
                  obtain ⟨ad129, e129, hx129_0⟩ := Kd.at_int HR1.out x14_4 p129 q129
                  cases e129
                  replace hx129_0 := up_ HB.out hx129_0
                  replace p129 := eq_true p129
                  replace q129 := eq_true q129
                  go_wp2
                  repeat (go_quiet (fail); try go_wp2)
                  go_ret
                  exact ⟨by first | rfl | (simp [errW_none, errW_some] <;> rfl) | (simp [*, errW_none, errW_some] <;> rfl), pL HB.out⟩
                 ·rw [if_neg c58] at H
                  have c58b0 : decide ((wrap64 (rd l1 x14_4)) < (rd t121 x14_4)) = false := decide_eq_false c58
                  clear c58
                  by_cases c60 : (rd t121 x14_4) < 0
                  ·rw [if_pos c60] at H
                   have c60b0 : decide ((rd t121 x14_4) < 0) = true := decide_eq_true c60
                   clear c60
                   obtain rfl := Option.some.inj H
                   obtain ⟨Ao61, co61, eo61⟩ := Kd.R_slice HO_11.out
                   subst eo61
                   have p128 : 0 ≤ (x14_4 : Int) := dt_
                   have q128 : x14_4 < (t121.length : Int) := dt_
                   obtain ⟨ad128, e128, hx128_0⟩ := Kd.at_int (Kd.R_reads' HO_11.out).2.2 x14_4 p128 q128
                   cases e128
                   replace p128 := eq_true p128
                   replace q128 := eq_true q128
                   have p129 : 0 ≤ (x14_4 : Int) := dt_
                   have q129 : x14_4 < (l1.length : Int) := dt_
                   obtain ⟨ad129, e129, hx129_0⟩ := Kd.at_int HR1.out x14_4 p129 q129
                   cases e129
                   replace hx129_0 := up_ HB.out hx129_0
                   replace p129 := eq_true p129
                   replace q129 := eq_true q129
                   have p130 : 0 ≤ (x14_4 : Int) := dt_
                   have q130 : x14_4 < (t121.length : Int) := dt_
                   obtain ⟨ad130, e130, hx130_0⟩ := Kd.at_int (Kd.R_reads' HO_11.out).2.2 x14_4 p130 q130
                   obtain rfl : ad128 = ad130 := (by injection e130)
                   replace p130 := eq_true p130
                   replace q130 := eq_true q130
                   go_wp2
                   repeat (go_quiet (fail); try go_wp2)
                   go_ret
                   exact ⟨by first | rfl | (simp [errW_none, errW_some] <;> rfl) | (simp [*, errW_none, errW_some] <;> rfl), pL HB.out⟩
                  ·rw [if_neg c60] at H
                   have c60b0 : decide ((rd t121 x14_4) < 0) = false := decide_eq_false c60
                   clear c60
                   have H' := am H
                   clear H
                   obtain ⟨Ao62, co62, eo62⟩ := Kd.R_slice HO_11.out
                   subst eo62
                   have p128 : 0 ≤ (x14_4 : Int) := dt_
                   have q128 : x14_4 < (t121.length : Int) := dt_
                   obtain ⟨ad128, e128, hx128_0⟩ := Kd.at_int (Kd.R_reads' HO_11.out).2.2 x14_4 p128 q128
                   cases e128
                   replace p128 := eq_true p128
                   replace q128 := eq_true q128
                   have p129 : 0 ≤ (x14_4 : Int) := dt_
                   have q129 : x14_4 < (l1.length : Int) := dt_
                   obtain ⟨ad129, e129, hx129_0⟩ := Kd.at_int HR1.out x14_4 p129 q129
                   cases e129
                   replace hx129_0 := up_ HB.out hx129_0
                   replace p129 := eq_true p129
                   replace q129 := eq_true q129
                   have p130 : 0 ≤ (x14_4 : Int) := dt_
                   have q130 : x14_4 < (t121.length : Int) := dt_
                   obtain ⟨ad130, e130, hx130_0⟩ := Kd.at_int (Kd.R_reads' HO_11.out).2.2 x14_4 p130 q130
                   obtain rfl : ad128 = ad130 := (by injection e130)
                   replace p130 := eq_true p130
                   replace q130 := eq_true q130
                   go_wp2
                   repeat (go_quiet (fail); try go_wp2)
                   go_roundg k4
                   case measure => have := HK1.out; have := HK2.out; have := HJ47.out; have := HK4.out; omega
                   case rel => exact ⟨(wrap64 (x14_4 + 1)), rs_, H', ⟨by have := HK1.out; have := HK2.out; have := HJ47.out; have := HK4.out; omega⟩, ⟨pR HO_11.out⟩, ⟨pB BK101.out⟩, ⟨pL HB.out⟩⟩
                ·rw [if_neg c57] at H
                 exact absurd H (by simp)
               ·rw [if_neg c56] at H
                exact absurd H (by simp)
              ·rw [if_neg c55] at H
               have c55b0 : decide (x14_4 < (t121.length : Int)) = false := decide_eq_false c55
               clear c55
               obtain rfl := Option.some.inj H
               obtain ⟨Ao63, co63, eo63⟩ := Kd.R_slice HO_11.out
               subst eo63
               go_wp2
               repeat (go_quiet (fail); try go_wp2)
               go_ret
               exact ⟨by first | rfl | (simp [errW_none, errW_some] <;> rfl) | (simp [*, errW_none, errW_some] <;> rfl), pL HB.out⟩
 ·replace c5 := Bool.eq_false_iff.mpr c5
  subst c5
  have H1 : (some t102) = some r := by rw [if_neg (show ¬ (false = true) by decide)] at H; exact H
  clear H
  have H := H1
  clear H1
  obtain rfl := Option.some.inj H
  go_enter Try.func11, Try.ntmps11
  go_wp2_with (first | ((with_reducible refine gate_dst (N := 2) rfl ?_); (try (refine gate_guard (by rfl) ?_; dsimp only)); refine box_event ?hg (N := 2) ?hd (cs := #[.slice A0_0 l0_0.length c0_0, .slice A0_1 l0_1.length c0_1]) (t := 50) ?hr ?_; (case hd => rfl); (case hg => rfl); (case hr => first | (go_simp; done) | (go_simp; rfl)); intro gb101 hg w64 hbox hb; have BK101 := am (hbox); have GW101 := am (gw_ hg HB.out); have GE101 := GW101; replace HB := am (bs_ HB.out hb); clear hb hbox hg) | (go_at_call 27; (with_reducible refine (lambrequinlaw11_shown.calls k  t102 _ A3.out).mono ?_); rintro e w65 ⟨rfl, hb⟩; replace BK101 := am (bb_ BK101.out hb); replace HB := am (bs_ HB.out hb); (try clear hb); (try clear hb2); (try clear hk); (try clear hi); obtain ⟨hcz66_0, hcz66_1, hfz66_0, hfz66_1⟩ := bc2 BK101.out) | (go_at_call 28; (with_reducible refine (lambrequinlaw11_few.calls k _ _ l0_0 _ _ l0_1 false _ ?side1 ?side2 ?side3 ?side4 A4.out).mono ?_); (case side1 => repeat (first | exact (Kd.C_below HR0_0.out HB.out) | (with_reducible refine Kd.C_alloc ?_ _) | (with_reducible refine Kd.C_drewN ?_ _) | (with_reducible refine Kd.C_drew ?_))); (case side2 => exact HC0_0.out); (case side3 => repeat (first | exact (Kd.C_below HR0_1.out HB.out) | (with_reducible refine Kd.C_alloc ?_ _) | (with_reducible refine Kd.C_drewN ?_ _) | (with_reducible refine Kd.C_drew ?_))); (case side4 => exact HC0_1.out); rintro e w67 ⟨rfl, hb⟩; replace BK101 := am (bb_ BK101.out hb); replace HB := am (bs_ HB.out hb); (try clear hb); (try clear hb2); (try clear hk); (try clear hi)))
  repeat (go_quiet (first | ((with_reducible refine gate_dst (N := 2) rfl ?_); (try (refine gate_guard (by rfl) ?_; dsimp only)); refine box_event ?hg (N := 2) ?hd (cs := #[.slice A0_0 l0_0.length c0_0, .slice A0_1 l0_1.length c0_1]) (t := 50) ?hr ?_; (case hd => rfl); (case hg => rfl); (case hr => first | (go_simp; done) | (go_simp; rfl)); intro gb101 hg w64 hbox hb; have BK101 := am (hbox); have GW101 := am (gw_ hg HB.out); have GE101 := GW101; replace HB := am (bs_ HB.out hb); clear hb hbox hg) | (go_at_call 27; (with_reducible refine (lambrequinlaw11_shown.calls k  t102 _ A3.out).mono ?_); rintro e w65 ⟨rfl, hb⟩; replace BK101 := am (bb_ BK101.out hb); replace HB := am (bs_ HB.out hb); (try clear hb); (try clear hb2); (try clear hk); (try clear hi); obtain ⟨hcz66_0, hcz66_1, hfz66_0, hfz66_1⟩ := bc2 BK101.out) | (go_at_call 28; (with_reducible refine (lambrequinlaw11_few.calls k _ _ l0_0 _ _ l0_1 false _ ?side1 ?side2 ?side3 ?side4 A4.out).mono ?_); (case side1 => repeat (first | exact (Kd.C_below HR0_0.out HB.out) | (with_reducible refine Kd.C_alloc ?_ _) | (with_reducible refine Kd.C_drewN ?_ _) | (with_reducible refine Kd.C_drew ?_))); (case side2 => exact HC0_0.out); (case side3 => repeat (first | exact (Kd.C_below HR0_1.out HB.out) | (with_reducible refine Kd.C_alloc ?_ _) | (with_reducible refine Kd.C_drewN ?_ _) | (with_reducible refine Kd.C_drew ?_))); (case side4 => exact HC0_1.out); rintro e w67 ⟨rfl, hb⟩; replace BK101 := am (bb_ BK101.out hb); replace HB := am (bs_ HB.out hb); (try clear hb); (try clear hb2); (try clear hk); (try clear hi))); try go_wp2_with (first | ((with_reducible refine gate_dst (N := 2) rfl ?_); (try (refine gate_guard (by rfl) ?_; dsimp only)); refine box_event ?hg (N := 2) ?hd (cs := #[.slice A0_0 l0_0.length c0_0, .slice A0_1 l0_1.length c0_1]) (t := 50) ?hr ?_; (case hd => rfl); (case hg => rfl); (case hr => first | (go_simp; done) | (go_simp; rfl)); intro gb101 hg w64 hbox hb; have BK101 := am (hbox); have GW101 := am (gw_ hg HB.out); have GE101 := GW101; replace HB := am (bs_ HB.out hb); clear hb hbox hg) | (go_at_call 27; (with_reducible refine (lambrequinlaw11_shown.calls k  t102 _ A3.out).mono ?_); rintro e w65 ⟨rfl, hb⟩; replace BK101 := am (bb_ BK101.out hb); replace HB := am (bs_ HB.out hb); (try clear hb); (try clear hb2); (try clear hk); (try clear hi); obtain ⟨hcz66_0, hcz66_1, hfz66_0, hfz66_1⟩ := bc2 BK101.out) | (go_at_call 28; (with_reducible refine (lambrequinlaw11_few.calls k _ _ l0_0 _ _ l0_1 false _ ?side1 ?side2 ?side3 ?side4 A4.out).mono ?_); (case side1 => repeat (first | exact (Kd.C_below HR0_0.out HB.out) | (with_reducible refine Kd.C_alloc ?_ _) | (with_reducible refine Kd.C_drewN ?_ _) | (with_reducible refine Kd.C_drew ?_))); (case side2 => exact HC0_0.out); (case side3 => repeat (first | exact (Kd.C_below HR0_1.out HB.out) | (with_reducible refine Kd.C_alloc ?_ _) | (with_reducible refine Kd.C_drewN ?_ _) | (with_reducible refine Kd.C_drew ?_))); (case side4 => exact HC0_1.out); rintro e w67 ⟨rfl, hb⟩; replace BK101 := am (bb_ BK101.out hb); replace HB := am (bs_ HB.out hb); (try clear hb); (try clear hb2); (try clear hk); (try clear hi))))
  go_ret
  exact ⟨by first | rfl | (simp [errW_none, errW_some] <;> rfl) | (simp [*, errW_none, errW_some] <;> rfl), pL HB.out⟩
end Go.Proofs.Ytmlhnjonmjmhdaa.H
/- StrataLeast: no numbers that are so, from 0 on, are lower anywhere; where any are so there are strata -/
namespace Go.Proofs.Ytmlhnjonmjmhdaa.H
open Go.RowKit Go.Proofs.YtmlhnjonmjmhdaaW.PrintWords
theorem At_l0 (l : List ByteArray) (s : ByteArray) (hl : l.length ≤ 1000000) : ∀ (d : List ByteArray) (i : Nat), l.drop i = d → Ev (fun k => lambrequinref11_At.l0 k l s (i : Int)) (idxP (fun y => decide (y = s)) d i)
  | [], i, hd => by
    refine Ev.step (fun k => by rw [lambrequinref11_At.l0]) ?_
    exact Ev.neg (drop_end hd) (Ev.now _)
  | y :: d, i, hd => by
    obtain ⟨h1, h2, h3, h4, h5⟩ := drop_more hd (by omega)
    have e : rdOf ByteArray.empty l (i : Int) = y := h3 _
    have next := At_l0 l s hl d (i + 1) h4
    refine Ev.step (fun k => by rw [lambrequinref11_At.l0]) ?_
    rw [e, h5]
    unfold idxP
    refine Ev.pos h1 (Ev.pos h2 ?_)
    by_cases c : y = s
    · rw [if_pos (by simpa using c)]
      exact Ev.pos (by rw [c]) (Ev.now _)
    · rw [if_neg (by simpa using c)]
      exact Ev.neg (fun h => c (lib_ba_eq.1 h)) next
theorem At_ev (l : List ByteArray) (s : ByteArray) (hl : l.length ≤ 1000000) : Ev (fun k => lambrequinref11_At.f k l s) (idxS l s) := by
  unfold lambrequinref11_At.f
  exact At_l0 l s hl l 0 rfl
theorem rpreds_l0 {us : List Decl} (hl : us.length ≤ 1000000) : ∀ (d : List Decl) (i : Nat) (acc : List ByteArray), us.drop i = d → acc.length + d.length ≤ 1000000 → Ev (fun k => lambrequinref11_Preds.l0 k acc us (i : Int)) (setS (acc ++ d.map declN))
  | [], i, acc, hd, ha => by
    refine Ev.step (fun k => by rw [lambrequinref11_Preds.l0]) ?_
    refine Ev.neg (drop_end hd) (Ev.bind (Sorted_ev acc (by simpa using ha)) (Ev.some (by simp)))
  | y :: d, i, acc, hd, ha => by
    obtain ⟨h1, h2, h3, h4, h5⟩ := drop_more hd (by omega)
    have e : rd_T96 us (i : Int) = y := h3 _
    rw [List.length_cons] at ha
    have next := rpreds_l0 hl d (i + 1) (acc ++ [y.pred]) h4 (by rw [List.length_append, List.length_singleton]; omega)
    refine Ev.step (fun k => by rw [lambrequinref11_Preds.l0]) ?_
    rw [e, h5]
    clear h5
    refine Ev.pos h1 (Ev.pos h2 (Ev.pos (by omega) ?_))
    have e2 : acc ++ [y.pred] ++ d.map declN = acc ++ (y :: d).map declN := by simp [declN]
    rw [e2] at next
    exact next
theorem ruleD_names (r : Rule) : (ruleD r).map declN = ruleN r := by
  unfold ruleD ruleN
  rw [List.map_cons, List.map_map]
  rfl
theorem fmD_names (rs : List Rule) : (rs.flatMap ruleD).map declN = rs.flatMap ruleN := by
  rw [List.map_flatMap]
  congr 1
  funext r
  exact ruleD_names r
theorem refPreds_ev {ds : List Decl} {rs : List Rule} (hrs : rs.length ≤ 9223372036854775807) (hb : ∀ r ∈ rs, r.body.length ≤ 9223372036854775807) (hu : (usesN ds rs).length ≤ 1000000) : Ev (fun k => lambrequinref11_Preds.f k ds rs) (namesP ds rs) := by
  have hu2 := hu
  unfold usesN at hu2
  rw [List.length_append, List.length_map] at hu2
  have h := uses_l0 (ds := ds) hrs hb rs 0 ([] ++ ds) rfl (by rw [List.nil_append, fmD_len]; omega)
  unfold lambrequinref11_Preds.f lambrequinref08_Uses.f
  refine Ev.bind (a := [] ++ ds ++ rs.flatMap ruleD) (Ev.pure rfl (Ev.pos (by simp only [List.length_nil]; omega) h)) ?_
  have hl : ([] ++ ds ++ rs.flatMap ruleD).length ≤ 1000000 := by rw [List.nil_append, List.length_append, fmD_len]; exact hu2
  have := rpreds_l0 hl _ 0 [] rfl (by simpa using hl)
  rw [List.nil_append, List.nil_append, List.drop_zero, List.map_append, fmD_names] at this
  exact this
/-- the edges of a kind: 0 all, 2 the negative ones -/
def kindB (x : Int) (b : Liter) : Bool := if x = 0 then useB b else negB b
theorem redges_l1 {p : List ByteArray} (hp : p.length ≤ 1000000) {ds : List Decl} {rs : List Rule} {x x7 : Int} (hx : x = 0 ∨ x = 2) {r : Rule} {R : List IPair} (hbs : r.body.length ≤ 1000000) : ∀ (d : List Liter) (i : Nat) (acc : List IPair), r.body.drop i = d → acc.length + d.length ≤ 10000000 →
    Ev (fun k => lambrequinref11_Edges.l0 k x p (acc ++ (d.filter (kindB x)).map (edgeOf p r)) (wrap64 (x7 + 1)) ds rs) R → Ev (fun k => lambrequinref11_Edges.l1 k x p acc x7 (i : Int) ds rs r.head.pred r.head.args r.body) R
  | [], i, acc, hd, ha, h => by
    refine Ev.step (fun k => by rw [lambrequinref11_Edges.l1]) ?_
    refine Ev.neg (drop_end hd) ?_
    simpa using h
  | y :: d, i, acc, hd, ha, h => by
    obtain ⟨h1, h2, h3, h4, h5⟩ := drop_more hd (by omega)
    have e : rd_T71 r.body (i : Int) = y := h3 _
    rw [List.length_cons] at ha
    have skip : kindB x y = false → Ev (fun k => lambrequinref11_Edges.l1 k x p acc x7 (wrap64 ((i : Int) + 1)) ds rs r.head.pred r.head.args r.body) R := by
      intro hu
      rw [List.filter_cons_of_neg (by rw [hu]; decide)] at h
      rw [h5]
      exact redges_l1 hp hx hbs d (i + 1) acc h4 (by omega) h
    have take : kindB x y = true → Ev (fun k => lambrequinref11_Edges.l1 k x p (acc ++ [(⟨idxS p r.head.pred, idxS p y.atom.pred⟩ : IPair)]) x7 (wrap64 ((i : Int) + 1)) ds rs r.head.pred r.head.args r.body) R := by
      intro hu
      rw [List.filter_cons_of_pos hu, List.map_cons, List.append_cons acc (edgeOf p r y)] at h
      rw [h5]
      exact redges_l1 hp hx hbs d (i + 1) _ h4 (by rw [List.length_append, List.length_singleton]; omega) h
    refine Ev.step (fun k => by rw [lambrequinref11_Edges.l1]) ?_
    rw [e]
    refine Ev.pos h1 (Ev.pos h2 ?_)
    by_cases c1 : y.kind = 1
    · refine Ev.pos c1 ?_
      rcases hx with hx | hx
      · refine Ev.pos hx ?_
        refine Ev.step (fun k => by rw [lambrequinref11_Edges.j2]) ?_
        exact Ev.pos rfl (Ev.bind (At_ev _ _ hp) (Ev.bind (At_ev _ _ hp) (Ev.pos (by omega) (take (by unfold kindB useB; simp [hx, c1])))))
      · refine Ev.neg (by omega) ?_
        refine Ev.step (fun k => by rw [lambrequinref11_Edges.j2]) ?_
        exact Ev.neg (by simp [hx, c1]) (skip (by unfold kindB negB; simp [hx, c1]))
    · refine Ev.neg c1 ?_
      by_cases c2 : y.kind = 2
      · refine Ev.pos c2 ?_
        rcases hx with hx | hx
        · refine Ev.pos hx ?_
          refine Ev.step (fun k => by rw [lambrequinref11_Edges.j2]) ?_
          exact Ev.pos rfl (Ev.bind (At_ev _ _ hp) (Ev.bind (At_ev _ _ hp) (Ev.pos (by omega) (take (by unfold kindB useB; simp [hx, c2])))))
        · refine Ev.neg (by omega) ?_
          refine Ev.step (fun k => by rw [lambrequinref11_Edges.j2]) ?_
          exact Ev.pos (by simp [hx, c2]) (Ev.bind (At_ev _ _ hp) (Ev.bind (At_ev _ _ hp) (Ev.pos (by omega) (take (by unfold kindB negB; simp [hx, c2])))))
      · refine Ev.neg c2 ?_
        refine Ev.step (fun k => by rw [lambrequinref11_Edges.j2]) ?_
        exact Ev.neg (by decide) (skip (by unfold kindB useB negB; split <;> simp [c1, c2]))
theorem redges_l0 {p : List ByteArray} (hp : p.length ≤ 1000000) {ds : List Decl} {rs : List Rule} {x : Int} (hx : x = 0 ∨ x = 2) (hrs : rs.length ≤ 1000000) (hb : ∀ r ∈ rs, r.body.length ≤ 1000000) : ∀ (d : List Rule) (i : Nat) (acc : List IPair), rs.drop i = d → (∀ j, acc.length + ((d.take j).flatMap fun r => (r.body.filter (kindB x)).map (edgeOf p r)).length ≤ 2000000) →
    Ev (fun k => lambrequinref11_Edges.l0 k x p acc (i : Int) ds rs) (acc ++ d.flatMap fun r => (r.body.filter (kindB x)).map (edgeOf p r))
  | [], i, acc, hd, ha => by
    refine Ev.step (fun k => by rw [lambrequinref11_Edges.l0]) ?_
    exact Ev.neg (drop_end hd) (Ev.some (by simp))
  | y :: d, i, acc, hd, ha => by
    obtain ⟨h1, h2, h3, h4, h5⟩ := drop_more hd (by omega)
    have e : rd_T64 rs (i : Int) = y := h3 _
    have hyb := hb y (List.mem_of_mem_drop (by rw [hd]; exact List.mem_cons_self))
    have ha0 := ha 0
    simp only [List.take_zero, List.flatMap_nil, List.length_nil] at ha0
    refine Ev.step (fun k => by rw [lambrequinref11_Edges.l0]) ?_
    rw [e]
    refine Ev.pos h1 (Ev.pos h2 ?_)
    refine redges_l1 hp hx hyb y.body 0 acc rfl (by omega) ?_
    rw [h5]
    have next := redges_l0 (ds := ds) hp hx hrs hb d (i + 1) (acc ++ (y.body.filter (kindB x)).map (edgeOf p y)) h4 (fun j => by
      have := ha (j + 1)
      rw [List.take_succ_cons, List.flatMap_cons, List.length_append] at this
      rw [List.length_append]; omega)
    rw [List.append_assoc] at next
    rw [List.flatMap_cons]
    exact next
theorem refEdges_all {ds : List Decl} {rs : List Rule} (hb : ∀ r ∈ rs, r.body.length ≤ 1000000) (hu : (usesN ds rs).length ≤ 100000) : Ev (fun k => lambrequinref11_Edges.f k ds rs 0) (allE (namesP ds rs) rs) := by
  obtain ⟨h1, h2⟩ := uses_parts (ds := ds) (rs := rs)
  have hn := namesP_len ds rs
  unfold lambrequinref11_Edges.f
  refine Ev.bind (refPreds_ev (by omega) (fun r hr => by have := hb r hr; omega) (by omega)) ?_
  have e : (fun r : Rule => (r.body.filter (kindB 0)).map (edgeOf (namesP ds rs) r)) = ruleE (namesP ds rs) := rfl
  have := redges_l0 (ds := ds) (p := namesP ds rs) (by omega) (x := 0) (.inl rfl) (rs := rs) (by omega) hb rs 0 [] rfl (fun j => by rw [e]; have := fmE_le (namesP ds rs) ruleE (ruleE_le _) rs j; simp only [List.length_nil]; omega)
  exact this
theorem refEdges_neg {ds : List Decl} {rs : List Rule} (hb : ∀ r ∈ rs, r.body.length ≤ 1000000) (hu : (usesN ds rs).length ≤ 100000) : Ev (fun k => lambrequinref11_Edges.f k ds rs 2) (negE (namesP ds rs) rs) := by
  obtain ⟨h1, h2⟩ := uses_parts (ds := ds) (rs := rs)
  have hn := namesP_len ds rs
  unfold lambrequinref11_Edges.f
  refine Ev.bind (refPreds_ev (by omega) (fun r hr => by have := hb r hr; omega) (by omega)) ?_
  have e : (fun r : Rule => (r.body.filter (kindB 2)).map (edgeOf (namesP ds rs) r)) = ruleG (namesP ds rs) := rfl
  have := redges_l0 (ds := ds) (p := namesP ds rs) (by omega) (x := 2) (.inr rfl) (rs := rs) (by omega) hb rs 0 [] rfl (fun j => by rw [e]; have := fmE_le (namesP ds rs) ruleG (ruleG_le _) rs j; simp only [List.length_nil]; omega)
  exact this
section
variable {ds : List Decl} {rs : List Rule} {nums : List Int}
theorem least_l2 {lev : List Int} (hl : lev.length ≤ nums.length) (hn : nums.length ≤ 2000000) (hb : ∀ v ∈ nums, 0 ≤ v ∧ v < 256) (hp : ∀ i, i < lev.length → 0 ≤ lev.getD i 0 ∧ lev.getD i 0 ≤ nums.getD i 0) : ∀ (d : List Int) (i : Nat), lev.drop i = d → Ev (fun k => lambrequinlaw11_StrataLeast.l2 k nums true lev (i : Int)) true
  | [], i, hd => by
    refine Ev.step (fun k => by rw [lambrequinlaw11_StrataLeast.l2]) ?_
    exact Ev.neg (drop_end hd) (Ev.now _)
  | y :: d, i, hd => by
    obtain ⟨h1, h2, h3, h4, h5⟩ := drop_more hd (by omega)
    have hi : i < lev.length := by clear h5; omega
    have hin : i < nums.length := by clear h5; omega
    have e1 : rd lev (i : Int) = lev.getD i 0 := by show lev.getD ((i : Int)).toNat 0 = _; rw [Int.toNat_natCast]
    have e2 : rd nums (i : Int) = nums.getD i 0 := by show nums.getD ((i : Int)).toNat 0 = _; rw [Int.toNat_natCast]
    have hv := hb (nums[i]) (List.getElem_mem hin)
    have e3 : nums.getD i 0 = nums[i] := by rw [List.getD_eq_getElem?_getD, List.getElem?_eq_getElem hin]; rfl
    have e4 : wrap64 (nums.getD i 0) = nums.getD i 0 := by rw [e3]; clear h5; unfold wrap64; omega
    have ih := least_l2 hl hn hb hp d (i + 1) h4
    rw [← h5] at ih
    have := hp i hi
    refine Ev.step (fun k => by rw [lambrequinlaw11_StrataLeast.l2]) ?_
    rw [e1, e2, e4]
    clear h5 e4
    exact Ev.pos h1 (Ev.pos h2 (Ev.pos (by omega) (Ev.neg (by omega) (Ev.neg (by omega) ih))))
theorem least_l1 (hn : nums.length ≤ 2000000) (hin : inE nums.length (negE (namesP ds rs) rs)) (hl : (negE (namesP ds rs) rs).length ≤ 1000000) (last : (∀ e ∈ negE (namesP ds rs) rs, nums.getD e.fst.toNat 0 ≠ nums.getD e.snd.toNat 0) → Ev (fun k => (strata_Of.f k ds rs).bind fun bt121 => (if bt121.2.2 = 0 then (lambrequinlaw11_StrataLeast.j2 k nums true bt121.1 ((bt121.1.length : Int) != ((namesP ds rs).length : Int))) else (lambrequinlaw11_StrataLeast.j2 k nums true bt121.1 true))) true) :
    ∀ (d : List IPair) (i : Nat), (negE (namesP ds rs) rs).drop i = d → (∀ e ∈ (negE (namesP ds rs) rs).take i, nums.getD e.fst.toNat 0 ≠ nums.getD e.snd.toNat 0) → Ev (fun k => lambrequinlaw11_StrataLeast.l1 k nums true (namesP ds rs) (negE (namesP ds rs) rs) (i : Int) ds rs) true
  | [], i, hd, h => by
    have hi := drop_end hd
    rw [List.take_of_length_le (by omega)] at h
    refine Ev.step (fun k => by rw [lambrequinlaw11_StrataLeast.l1]) ?_
    exact Ev.neg hi (last h)
  | y :: d, i, hd, h => by
    obtain ⟨h1, h2, h3, h4, h5⟩ := drop_more hd (by omega)
    have e : rd_T27 (negE (namesP ds rs) rs) (i : Int) = y := h3 _
    have hy : (negE (namesP ds rs) rs)[i]? = some y := by
      have := congrArg (fun z => z[0]?) hd
      simpa using this
    have hyb := hin y (List.mem_of_getElem? hy)
    refine Ev.step (fun k => by rw [lambrequinlaw11_StrataLeast.l1]) ?_
    rw [e]
    refine Ev.pos h1 (Ev.pos h2 (Ev.pos hyb.1 (Ev.pos (by clear h5; omega) (Ev.pos hyb.2.2.1 (Ev.pos (by clear h5; omega) ?_)))))
    by_cases c : rd nums y.fst = rd nums y.snd
    · exact Ev.pos c (Ev.now _)
    · refine Ev.neg c ?_
      rw [h5]
      refine least_l1 hn hin hl last d (i + 1) h4 (fun e' he' => ?_)
      rw [take_snoc hy] at he'
      rcases List.mem_append.1 he' with he' | he'
      · exact h e' he'
      · rw [List.mem_singleton.1 he']; exact c
theorem least_l0 (hn : nums.length ≤ 2000000) (hin : inE nums.length (allE (namesP ds rs) rs)) (hl : (allE (namesP ds rs) rs).length ≤ 1000000) (last : (∀ e ∈ allE (namesP ds rs) rs, nums.getD e.snd.toNat 0 ≤ nums.getD e.fst.toNat 0) → Ev (fun k => lambrequinlaw11_StrataLeast.l1 k nums true (namesP ds rs) (negE (namesP ds rs) rs) 0 ds rs) true) :
    ∀ (d : List IPair) (i : Nat), (allE (namesP ds rs) rs).drop i = d → (∀ e ∈ (allE (namesP ds rs) rs).take i, nums.getD e.snd.toNat 0 ≤ nums.getD e.fst.toNat 0) → Ev (fun k => lambrequinlaw11_StrataLeast.l0 k nums true (namesP ds rs) (allE (namesP ds rs) rs) (negE (namesP ds rs) rs) (i : Int) ds rs) true
  | [], i, hd, h => by
    have hi := drop_end hd
    rw [List.take_of_length_le (by omega)] at h
    refine Ev.step (fun k => by rw [lambrequinlaw11_StrataLeast.l0]) ?_
    exact Ev.neg hi (last h)
  | y :: d, i, hd, h => by
    obtain ⟨h1, h2, h3, h4, h5⟩ := drop_more hd (by omega)
    have e : rd_T27 (allE (namesP ds rs) rs) (i : Int) = y := h3 _
    have hy : (allE (namesP ds rs) rs)[i]? = some y := by
      have := congrArg (fun z => z[0]?) hd
      simpa using this
    have hyb := hin y (List.mem_of_getElem? hy)
    refine Ev.step (fun k => by rw [lambrequinlaw11_StrataLeast.l0]) ?_
    rw [e]
    refine Ev.pos h1 (Ev.pos h2 (Ev.pos hyb.1 (Ev.pos (by clear h5; omega) (Ev.pos hyb.2.2.1 (Ev.pos (by clear h5; omega) ?_)))))
    by_cases c : rd nums y.fst < rd nums y.snd
    · exact Ev.pos c (Ev.now _)
    · refine Ev.neg c ?_
      rw [h5]
      refine least_l0 hn hin hl last d (i + 1) h4 (fun e' he' => ?_)
      rw [take_snoc hy] at he'
      rcases List.mem_append.1 he' with he' | he'
      · exact h e' he'
      · rw [List.mem_singleton.1 he']; exact Int.not_lt.1 c
end
theorem StrataLeast_ev (ds : List Decl) (rs : List Rule) (nums : List Int) (hb : ∀ r ∈ rs, r.body.length ≤ 1000000) (hu : (usesN ds rs).length ≤ 2000000) (hrs : rs.length ≤ 1000000) (hnl : nums.length ≤ 2000000) (hnb : ∀ v ∈ nums, 0 ≤ v ∧ v < 256) : Ev (fun k => lambrequinlaw11_StrataLeast.f k ds rs nums) true := by
  unfold lambrequinlaw11_StrataLeast.f
  refine Ev.bind shown11_ev (Ev.bind (few_ev (by omega) (fun r hr => by have := hb r hr; omega) (by omega)) ?_)
  by_cases c : (usesN ds rs).length ≤ 60
  · refine Ev.pos (by simpa using c) (Ev.bind (Preds_ev hb (by omega)) ?_)
    show Ev (fun k => if (nums.length : Int) < ((namesP ds rs).length : Int) then _ else _) true
    by_cases c2 : (nums.length : Int) < ((namesP ds rs).length : Int)
    · exact Ev.pos c2 (Ev.now _)
    · have ha : inE (namesP ds rs).length (allE (namesP ds rs) rs) := allE_in ds rs
      have hg : inE (namesP ds rs).length (negE (namesP ds rs) rs) := fun e he => ha e (neg_all he)
      obtain ⟨l1, l2⟩ := allE_len (ds := ds) (rs := rs) (namesP ds rs)
      have wide : ∀ {l : List IPair}, inE (namesP ds rs).length l → inE nums.length l := fun h e he => by have := h e he; omega
      refine Ev.neg c2 (Ev.bind (refEdges_all hb (by omega)) (Ev.bind (refEdges_neg hb (by omega)) ?_))
      refine least_l0 hnl (wide ha) (by omega) (fun hall => ?_) _ 0 rfl (fun e he => by simp at he)
      refine least_l1 hnl (wide hg) (by omega) (fun hneg => ?_) _ 0 rfl (fun e he => by simp at he)
      have hf : Num (allE (namesP ds rs) rs) (negE (namesP ds rs) rs) (fun i => nums.getD i 0) := by
        refine ⟨fun i => ?_, hall, fun e he => ?_⟩
        · show 0 ≤ nums.getD i 0
          rw [List.getD_eq_getElem?_getD]
          cases h : nums[i]? with
          | none => simp
          | some v => exact (hnb v (List.mem_of_getElem? h)).1
        · have h1 := hall e (neg_all he)
          have h2 := hneg e he
          show nums.getD e.snd.toNat 0 < nums.getD e.fst.toNat 0
          omega
      rcases Of_ex (ds := ds) (rs := rs) hb (by omega) with ⟨lev, h1, h2, h3, _, _, h6⟩ | ⟨w, h1, e, he, hr⟩
      · refine Ev.bind h1 (Ev.pos rfl ?_)
        show Ev (fun k => lambrequinlaw11_StrataLeast.j2 k nums true lev ((lev.length : Int) != ((namesP ds rs).length : Int))) true
        rw [h2, bne_self_eq_false]
        refine Ev.step (fun k => by rw [lambrequinlaw11_StrataLeast.j2]) ?_
        refine Ev.neg (by decide) (least_l2 (by omega) hnl hnb (fun i hi => ⟨?_, h6 _ hf i (by omega)⟩) lev 0 rfl)
        rw [List.getD_eq_getElem?_getD, List.getElem?_eq_getElem hi]
        exact (h3 _ (List.getElem_mem hi)).1
      · exfalso
        have h7 : nums.getD e.fst.toNat 0 ≤ nums.getD e.snd.toNat 0 := hf.rch ha hr
        have h8 : nums.getD e.snd.toNat 0 < nums.getD e.fst.toNat 0 := hf.neg e he
        omega
  · exact Ev.neg (by simpa using c) (Ev.now _)
theorem u8s_of {l : List Int} (h : ∀ v ∈ l, (Lit.int .u8 v).wf = true) : ∀ v ∈ l, 0 ≤ v ∧ v < 256 := by
  intro v hv
  have := h v hv
  simp [Lit.wf, IntKind.min, IntKind.max, IntKind.signed, IntKind.bits] at this
  omega
theorem StrataLeast_pure (x0 : Prog) (y0 : x0.decls.length ≤ 9223372036854775807) (z0 : x0.rules.length ≤ 9223372036854775807) (u0 : sUProg x0 ≤ 1048576) (x1 : List Int) (y1 : (x1.map fun y => szB .u8 y).sum + 1 ≤ 1048576) : ∃ k, lambrequinlaw11_StrataLeast.f k x0.decls x0.rules x1 = some true := by
  obtain ⟨h1, h2, h3⟩ := prog_small u0
  have h4 := sum_ge (fun y => szB .u8 y) 1 (fun v => szB_ge _ _) x1
  refine Ev.rounds (g := fun k => lambrequinlaw11_StrataLeast.f k x0.decls x0.rules x1) (StrataLeast_ev x0.decls x0.rules x1 h1 h2 h3 (by omega) (u8s_of fun v hv => ?_))
  have h5 := mem_le_sum (fun y => szB .u8 y) hv
  exact szB_wf (by omega)
theorem StrataLeast_walk (w : World) (x0 : Prog) (A0_0 : Option Addr) (c0_0 : Nat) (l0_0 : x0.decls.length ≤ c0_0) (g0_0 : Kd.C k96 w A0_0 x0.decls.length x0.decls) (A0_1 : Option Addr) (c0_1 : Nat) (l0_1 : x0.rules.length ≤ c0_1) (g0_1 : Kd.C k64 w A0_1 x0.rules.length x0.rules) (u0 : sUProg x0 ≤ 1048576) (x1 : (List Int)) (A1 : Option Addr) (c1 : Nat) (l1 : x1.length ≤ c1) (g1 : Kd.C (Kd.int .u8) w A1 x1.length x1) (y1 : (x1.map fun y => szB .u8 y).sum + 1 ≤ 1048576) :
    Calls Try.prog 11 #[.agg #[.slice A0_0 x0.decls.length c0_0, .slice A0_1 x0.rules.length c0_1], .slice A1 x1.length c1] w fun e w' => e = .returned (.bool true) ∧ Below w.heap.size w w' := by
  obtain ⟨k, h⟩ := StrataLeast_pure x0 g0_0.2.1 g0_1.2.1 u0 x1 y1
  exact (lambrequinlaw11_StrataLeast.calls k A0_0 c0_0 x0.decls A0_1 c0_1 x0.rules A1 c1 x1 true w g0_0 l0_0 g0_1 l0_1 g1 l1 h).mono (fun e w' h' => ⟨h'.1, h'.2⟩)
end Go.Proofs.Ytmlhnjonmjmhdaa.H
namespace Go.Proofs.Ytmlhnjonmjmhdaa.strataLeastUpto
open Go.ChangeShapes Go.WideShapes Go.ChangeAt Go.RowKit Go.Proofs.Ytmlhnjonmjmhdaa.H Go.Proofs.YtmlhnjonmjmhdaaW.PrintWords
open Go.ChangeMaps (open_string shut_string)
theorem own : ownKnob Try.prog.godebug = none := by kernel_rfl
theorem laidOut : laidOutB Try.prog = true := by kernel_rfl
set_option maxRecDepth 100000 in
theorem lifted (os : Os) (started : os.Started) (H : Type) (enc : TypeId × Value → H) (F0 : Stop.Interp) :
    ReturnsInHanded {} Try.checked os 11 .any ((Rows.OpenSpec.upto Rows.strataLeastSpec).pre6 enc Try.prog Try.f11 Rows.strataLeastUptoRow.domain false) (((Rows.OpenSpec.upto Rows.strataLeastSpec).at F0).post enc Try.prog Try.f11 false true false false) := by
  refine returnsInHanded_of_cond (C := Try.checked) (s := (Rows.OpenSpec.upto Rows.strataLeastSpec)) (k := Rows.uptoSmall) rfl own started (by kernel_rfl) Try.func11
    (OpenSpec.witness (enc := enc) (C := Try.checked) (s := (Rows.OpenSpec.upto Rows.strataLeastSpec)) (k := Rows.uptoSmall) rfl false ⟨#[], #[.agg #[.slice none 0 0, .slice none 0 0], .slice none 0 0], []⟩ 8 (by kernel_rfl) (by kernel_rfl) (by kernel_rfl) (x := ([.agg [.nil, .nil], .nil], [], [])) (by kernel_rfl) (by kernel_rfl) (by kernel_rfl)) ?_
  intro W base args ds gs before hval0 hW _ hk0 _
  have hval : ∀ (j : Nat) t v, Try.f11.params[j]? = some t → args[j]? = some v → Value.okWide Try.prog W .any base t v := hval0
  have hW' := hW
  obtain ⟨p, q, hA0, hV, rfl, hfz, hnd⟩ := hW
  have hA : DataW.TrodAll enc Try.prog W 0 (fun _ => true) true Try.f11.params.toList args.toList ds p := hA0
  rw [Try.params11] at hA hval
  obtain ⟨v0, vs0, d0, ds0, p0, q0, hargs, rfl, rfl, h0, r0⟩ := trodAll_cons hA
  obtain ⟨v1, vs1, d1, ds1, p1, q1, rfl, rfl, rfl, h1, r1⟩ := trodAll_cons r0
  obtain ⟨rfl, rfl, rfl⟩ := trodAll_nil r1
  obtain rfl : args = #[v0, v1] := by cases args; simp_all
  obtain ⟨rfl, rfl⟩ := trodVars_none hV
  have hk : Rows.uptoBulkAll [d0, d1] ≤ 1048576 := of_decide_eq_true hk0
  simp only [Rows.uptoBulkAll] at hk
  have k0 := h0
  have lt0 : ∀ x ∈ p0, x.block < W.heap.size := by obtain ⟨m, hm⟩ := k0; exact DataW.trod_lt m _ _ _ hm
  obtain ⟨cs0, rfl, -⟩ := okWide_struct Try.underlying50 (hval 0 50 v0 rfl rfl)
  obtain ⟨x0, g0, u0⟩ := opensU_Prog.arg k0
  obtain ⟨A0_0, c0_0, A0_1, c0_1, e0, l0_0, g0_0, l0_1, g0_1⟩ := k50_open g0
  obtain ⟨cl0⟩ := cs0
  obtain rfl : cl0 = _ := e0
  replace u0 : sUProg x0 ≤ 1048576 := by omega
  have k1 := h1
  have lt1 : ∀ x ∈ p1, x.block < W.heap.size := by obtain ⟨m, hm⟩ := k1; exact DataW.trod_lt m _ _ _ hm
  obtain ⟨a1, len1, cap1, rfl⟩ := okWide_slice Try.underlying72 (hval 1 72 v1 rfl rfl)
  obtain ⟨x1, ⟨A1, c1, e1, l1, g1⟩, u1⟩ := (opensU_slice Try.underlying72 (by kernel_rfl) (opensU_intB (t := 5) (by kernel_rfl) (by kernel_rfl)) 5).arg k1
  simp only [Value.cells, List.cons.injEq, and_true, Value.slice.injEq] at e1
  obtain ⟨rfl, rfl, rfl⟩ := e1
  replace u1 := Nat.le_trans u1 (show Rows.uptoBulk d1 ≤ 1048576 by omega)
  try clear hval0
  refine (StrataLeast_walk W x0 A0_0 c0_0 l0_0 g0_0 A0_1 c0_1 l0_1 g0_1 u0 x1 a1 cap1 l1 g1 u1).mono fun e W' ⟨he, bel⟩ => ?_
  subst he
  exact ⟨_, rfl, _, _, _, [], _, [], hW', trodAll_mk1 (shut_bool Try.underlying4 _), (trodAll_cons_mk (Below.trod laidOut (by kernel_rfl) (of_decide_eq_true (by kernel_rfl)) k0 bel lt0) (trodAll_cons_mk (Below.trod laidOut (by kernel_rfl) (of_decide_eq_true (by kernel_rfl)) k1 bel lt1) trodAll_mk0)), rfl, bel.frame _, fun h => by cases h⟩
theorem over : Rows.strataLeastUptoRow.holds Try.pinned (Rows.OpenSpec.upto Rows.strataLeastSpec) :=
  OpenClaim.holds_of_cond 11 Try.f11 rfl rfl rfl rfl rfl rfl rfl ⟨rfl, rfl, rfl, rfl, rfl⟩ rfl rfl rfl rfl rfl (by kernel_rfl) Try.func11 (by kernel_rfl)
    (of_decide_eq_true (by kernel_rfl)) (by unfold Func.isWrapper; first | (rw [if_pos (by decide +kernel)]; kernel_rfl) | (rw [if_neg (by decide +kernel)]; exact ⟨rfl, rfl⟩))
    (fun os started H enc _ F0 => lifted os started H enc F0)
theorem proved : Rows.StrataLeastUptoSaid := over
end Go.Proofs.Ytmlhnjonmjmhdaa.strataLeastUpto
namespace Go.Proofs.Ytmlhnjonmjmhdaa
theorem strataLeastUpto_holds : Rows.StrataLeastUptoSaid := strataLeastUpto.proved
#print axioms strataLeastUpto_holds
end Go.Proofs.Ytmlhnjonmjmhdaa

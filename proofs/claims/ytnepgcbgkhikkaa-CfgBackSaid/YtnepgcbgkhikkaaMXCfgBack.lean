/- RowCfgBack of the seat's law CfgBack: the law holds, under the statement's own conditions. -/
import Derived.Test.YtnepgcbgkhikkaaMA
import Derived.Test.YtnepgcbgkhikkaaMB
import Derived.Test.YtnepgcbgkhikkaaMD
import Derived.Test.YtnepgcbgkhikkaaRows
import Derived.Test.YtnepgcbgkhikkaaWSized
import Derived.WalkKit
import Derived.ProofKit
import Derived.OpenShut
import Derived.ShutString
import Derived.ChangeOld
import Derived.Below
import Derived.SizedLaws
import Derived.Carry
-- made by a program of this session (wip/tools) out of the translation; Lean checks it.
namespace Go.Proofs.Ytnepgcbgkhikkaa.H
open Go.RowKit Go.Proofs.YtnepgcbgkhikkaaW.PrintWords Go.Proofs.YtnepgcbgkhikkaaW.PrintLast Go.Proofs.YtnepgcbgkhikkaaW.PrintMore
attribute [local go_sem] max2_int min2_int max_two min_two max_three min_three max_four min_four   -- for this text's walks alone
set_option linter.unusedVariables false
set_option linter.unusedSimpArgs false

/-! ### lambrequinlaw20_CfgBack: function 5 -/
mutual
def lambrequinlaw20_CfgBack.l0 : Nat → List (Stmt) → Int → Int → Bool → List Int → List Int → Bool → Int → Option (Bool)
 | 0, _, _, _, _, _, _, _, _ => none
 | k + 1, x0, x1, x2, x7, x8, x9, x10, x11 => if x11 < (x8.length : Int) then (if x10 = true then (if 0 ≤ x11 then (if (rd x8 x11) < 0 then (some false) else (if (rd x8 x11) ≥ (x0.length : Int) then (some false) else (if x11 > 0 then (if 0 ≤ (wrap64 (x11 - 1)) then (if (wrap64 (x11 - 1)) < (x8.length : Int) then (if (rd x8 x11) ≤ (rd x8 (wrap64 (x11 - 1))) then (some false) else (lambrequinlaw20_CfgBack.l0 k x0 x1 x2 x7 x8 x9 true (wrap64 (x11 + 1)))) else (none)) else (none)) else (lambrequinlaw20_CfgBack.l0 k x0 x1 x2 x7 x8 x9 true (wrap64 (x11 + 1)))))) else (none)) else (if 0 ≤ x11 then (if (rd x8 x11) < 0 then (some false) else (if (rd x8 x11) ≥ (x0.length : Int) then (some false) else (if x11 > 0 then (if 0 ≤ (wrap64 (x11 - 1)) then (if (wrap64 (x11 - 1)) < (x8.length : Int) then (if (rd x8 x11) ≤ (rd x8 (wrap64 (x11 - 1))) then (some false) else (lambrequinlaw20_CfgBack.l0 k x0 x1 x2 x7 x8 x9 ((rd x8 x11) == x2) (wrap64 (x11 + 1)))) else (none)) else (none)) else (lambrequinlaw20_CfgBack.l0 k x0 x1 x2 x7 x8 x9 ((rd x8 x11) == x2) (wrap64 (x11 + 1)))))) else (none))) else (lambrequinlaw20_CfgBack.l1 k x1 x7 x8 x9 x10 false 0)
def lambrequinlaw20_CfgBack.l1 : Nat → Int → Bool → List Int → List Int → Bool → Bool → Int → Option (Bool)
 | 0, _, _, _, _, _, _, _ => none
 | k + 1, x1, x7, x8, x9, x10, x12, x13 => if x13 < (x9.length : Int) then (if x12 = true then (lambrequinlaw20_CfgBack.l1 k x1 x7 x8 x9 x10 true (wrap64 (x13 + 1))) else (if 0 ≤ x13 then (lambrequinlaw20_CfgBack.l1 k x1 x7 x8 x9 x10 ((rd x9 x13) == x1) (wrap64 (x13 + 1))) else (none))) else (if x7 = true then (if (x10 == x12) = true then (some (decide ((x8.length : Int) ≤ 2))) else (some false)) else (some false))
end
def lambrequinlaw20_CfgBack.f (k : Nat) (l0 : List (Stmt)) (a1 : Int) (a2 : Int) : Option (Bool) := (lambrequinlaw20_shown.f k).bind fun t101 => (if (l0.length : Int) > 60 then (some t101) else ((cfg_Next.f l0 a1).bind fun t102 => ((cfg_Prev.f k l0 a2).bind fun t105 => (lambrequinlaw20_CfgBack.l0 k l0 a1 a2 t101 t102 t105 false 0))))
theorem lambrequinlaw20_CfgBack.mono_l : ∀ k, (∀ y0 y1 y2 y3 y4 y5 y6 y7, LeO (lambrequinlaw20_CfgBack.l0 k y0 y1 y2 y3 y4 y5 y6 y7) (lambrequinlaw20_CfgBack.l0 (k + 1) y0 y1 y2 y3 y4 y5 y6 y7)) ∧ (∀ y0 y1 y2 y3 y4 y5 y6, LeO (lambrequinlaw20_CfgBack.l1 k y0 y1 y2 y3 y4 y5 y6) (lambrequinlaw20_CfgBack.l1 (k + 1) y0 y1 y2 y3 y4 y5 y6))
 | 0 => ⟨fun _ _ _ _ _ _ _ _ r h => by simp [lambrequinlaw20_CfgBack.l0] at h, fun _ _ _ _ _ _ _ r h => by simp [lambrequinlaw20_CfgBack.l1] at h⟩
 | k + 1 => by
  obtain ⟨ih0, ih1⟩ := lambrequinlaw20_CfgBack.mono_l k
  refine ⟨?_, ?_⟩
  ·intro y0 y1 y2 y3 y4 y5 y6 y7
   unfold lambrequinlaw20_CfgBack.l0
   repeat' first
   | (with_reducible exact ih0 _ _ _ _ _ _ _ _)
   | (with_reducible exact ih1 _ _ _ _ _ _ _)
   | (with_reducible exact cfg_Prev.mono _ _ _)
   | (with_reducible exact lambrequinlaw20_shown.mono _)
   | (with_reducible exact LeO.refl _)
   | (with_reducible exact LeO.none _)
   | (with_reducible refine LeO.ite ?_ ?_)
   | (with_reducible refine LeO.bind ?_ (fun _ => ?_))
   | exact ih0 _ _ _ _ _ _ _ _
   | exact ih1 _ _ _ _ _ _ _
   | exact cfg_Prev.mono _ _ _
   | exact lambrequinlaw20_shown.mono _
   | exact LeO.none _
   | refine LeO.ite ?_ ?_
   | refine LeO.bind ?_ (fun _ => ?_)
  ·intro y0 y1 y2 y3 y4 y5 y6
   unfold lambrequinlaw20_CfgBack.l1
   repeat' first
   | (with_reducible exact ih0 _ _ _ _ _ _ _ _)
   | (with_reducible exact ih1 _ _ _ _ _ _ _)
   | (with_reducible exact cfg_Prev.mono _ _ _)
   | (with_reducible exact lambrequinlaw20_shown.mono _)
   | (with_reducible exact LeO.refl _)
   | (with_reducible exact LeO.none _)
   | (with_reducible refine LeO.ite ?_ ?_)
   | (with_reducible refine LeO.bind ?_ (fun _ => ?_))
   | exact ih0 _ _ _ _ _ _ _ _
   | exact ih1 _ _ _ _ _ _ _
   | exact cfg_Prev.mono _ _ _
   | exact lambrequinlaw20_shown.mono _
   | exact LeO.none _
   | refine LeO.ite ?_ ?_
   | refine LeO.bind ?_ (fun _ => ?_)
theorem lambrequinlaw20_CfgBack.mono : ∀ a0 a1 a2 k, LeO (lambrequinlaw20_CfgBack.f k a0 a1 a2) (lambrequinlaw20_CfgBack.f (k + 1) a0 a1 a2) := by
 intro a0 a1 a2 k
 obtain ⟨ih0, ih1⟩ := lambrequinlaw20_CfgBack.mono_l k
 unfold lambrequinlaw20_CfgBack.f
 repeat' first
   | (with_reducible exact ih0 _ _ _ _ _ _ _ _)
   | (with_reducible exact ih1 _ _ _ _ _ _ _)
   | (with_reducible exact cfg_Prev.mono _ _ _)
   | (with_reducible exact lambrequinlaw20_shown.mono _)
   | (with_reducible exact LeO.refl _)
   | (with_reducible exact LeO.none _)
   | (with_reducible refine LeO.ite ?_ ?_)
   | (with_reducible refine LeO.bind ?_ (fun _ => ?_))
   | exact ih0 _ _ _ _ _ _ _ _
   | exact ih1 _ _ _ _ _ _ _
   | exact cfg_Prev.mono _ _ _
   | exact lambrequinlaw20_shown.mono _
   | exact LeO.none _
   | refine LeO.ite ?_ ?_
   | refine LeO.bind ?_ (fun _ => ?_)
set_option maxHeartbeats 8000000 in
set_option maxRecDepth 100000 in
theorem lambrequinlaw20_CfgBack.calls (k : Nat) (A0 : Option Addr) (c0 : Nat) (l0 : List (Stmt)) (a1 : Int) (a2 : Int) (r : Bool) (w : World) (hr0 : Kd.C k30 w A0 l0.length l0) (hc0 : l0.length ≤ c0) (h : lambrequinlaw20_CfgBack.f k l0 a1 a2 = some r) :
  Calls Try.prog 5 #[.slice A0 l0.length c0, .int .i64 a1, .int .i64 a2] w fun e w' => e = .returned (.bool r) ∧ Below w.heap.size w w' := by
 have HR0 := Aside0.mk hr0
 have HC0 := Aside0.mk hc0
 clear hr0 hc0
 have HB := Aside0.mk (Below.refl w.heap.size w)
 have H : ((lambrequinlaw20_shown.f k).bind fun t101 => (if (l0.length : Int) > 60 then (some t101) else ((cfg_Next.f l0 a1).bind fun t102 => ((cfg_Prev.f k l0 a2).bind fun t105 => (lambrequinlaw20_CfgBack.l0 k l0 a1 a2 t101 t102 t105 false 0))))) = some r := h
 clear h
 replace H := Option.bind_eq_some_iff.mp H
 obtain ⟨t101, A40, H⟩ := H
 replace H : (if (l0.length : Int) > 60 then (some t101) else ((cfg_Next.f l0 a1).bind fun t102 => ((cfg_Prev.f k l0 a2).bind fun t105 => (lambrequinlaw20_CfgBack.l0 k l0 a1 a2 t101 t102 t105 false 0)))) = some r := H
 have A4 := Aside0.mk A40
 clear A40
 by_cases c5 : (l0.length : Int) > 60
 ·rw [if_pos c5] at H
  have c5b0 : decide (60 < (l0.length : Int)) = true := decide_eq_true c5
  have c5b1 : decide (60 < l0.length) = true := decide_eq_true (by omega)
  clear c5
  obtain rfl := Option.some.inj H
  go_enter Try.func5, Try.ntmps5
  go_wp2_with (first | (go_at_call 17; (with_reducible refine (lambrequinlaw20_shown.calls k  t101 _ A4.out).mono ?_); rintro e w6 ⟨rfl, hb⟩; have n0_ := Aside0.mk (below_step (by repeat (first | (with_reducible first | exact HB.out | apply below_alloc | apply pw_below_drewN | apply below_drew1) | exact HB.out)) hb); clear HB; have HB := n0_; clear n0_; (try clear hb); (try clear hb2); (try clear hk); (try clear hi)))
  repeat (go_quiet (first | (go_at_call 17; (with_reducible refine (lambrequinlaw20_shown.calls k  t101 _ A4.out).mono ?_); rintro e w6 ⟨rfl, hb⟩; have n0_ := Aside0.mk (below_step (by repeat (first | (with_reducible first | exact HB.out | apply below_alloc | apply pw_below_drewN | apply below_drew1) | exact HB.out)) hb); clear HB; have HB := n0_; clear n0_; (try clear hb); (try clear hb2); (try clear hk); (try clear hi))); try go_wp2_with (first | (go_at_call 17; (with_reducible refine (lambrequinlaw20_shown.calls k  t101 _ A4.out).mono ?_); rintro e w6 ⟨rfl, hb⟩; have n0_ := Aside0.mk (below_step (by repeat (first | (with_reducible first | exact HB.out | apply below_alloc | apply pw_below_drewN | apply below_drew1) | exact HB.out)) hb); clear HB; have HB := n0_; clear n0_; (try clear hb); (try clear hb2); (try clear hk); (try clear hi))))
  go_ret
  exact ⟨by first | rfl | (simp [errW_none, errW_some] <;> rfl) | (simp [*, errW_none, errW_some] <;> rfl), by repeat (first | (with_reducible first | exact HB.out | apply below_alloc | apply pw_below_drewN | apply below_drew1) | exact HB.out)⟩
 ·rw [if_neg c5] at H
  have c5b0 : decide (60 < (l0.length : Int)) = false := decide_eq_false c5
  have c5b1 : decide (60 < l0.length) = false := decide_eq_false (by omega)
  clear c5
  replace H := Option.bind_eq_some_iff.mp H
  obtain ⟨t102, A70, H⟩ := H
  replace H : ((cfg_Prev.f k l0 a2).bind fun t105 => (lambrequinlaw20_CfgBack.l0 k l0 a1 a2 t101 t102 t105 false 0)) = some r := H
  have A7 := Aside0.mk A70
  clear A70
  replace H := Option.bind_eq_some_iff.mp H
  obtain ⟨t105, A80, H⟩ := H
  replace H : (lambrequinlaw20_CfgBack.l0 k l0 a1 a2 t101 t102 t105 false 0) = some r := H
  have A8 := Aside0.mk A80
  clear A80
  have H' := Aside0.mk H
  clear H
  go_enter Try.func5, Try.ntmps5
  go_wp2_with (first | (go_at_call 17; (with_reducible refine (lambrequinlaw20_shown.calls k  t101 _ A4.out).mono ?_); rintro e w9 ⟨rfl, hb⟩; have n0_ := Aside0.mk (below_step (by repeat (first | (with_reducible first | exact HB.out | apply below_alloc | apply pw_below_drewN | apply below_drew1) | exact HB.out)) hb); clear HB; have HB := n0_; clear n0_; (try clear hb); (try clear hb2); (try clear hk); (try clear hi)) | (go_at_call 19; (with_reducible refine (cfg_Next.calls _ _ l0 a1 t102 _ ?side1 ?side2 A7.out).mono ?_); (case side1 => repeat (first | exact (Kd.C_below HR0.out HB.out) | (with_reducible refine Kd.C_alloc ?_ _) | (with_reducible refine Kd.C_drewN ?_ _) | (with_reducible refine Kd.C_drew ?_))); (case side2 => exact HC0.out); rintro e w10 ⟨v103, rfl, ho0, hb⟩; have n0_ := Aside0.mk (Kd.R_lower ho0 (below_size (by repeat (first | (with_reducible first | exact HB.out | apply below_alloc | apply pw_below_drewN | apply below_drew1) | exact HB.out)))); have n1_ := Aside0.mk (below_step (by repeat (first | (with_reducible first | exact HB.out | apply below_alloc | apply pw_below_drewN | apply below_drew1) | exact HB.out)) hb); clear HB; have HO104 := n0_; have HB := n1_; clear n0_ n1_; (try clear hb); (try clear hb2); (try clear hk); (try clear hi); (try clear ho0)) | (go_at_call 24; (with_reducible refine (cfg_Prev.calls k _ _ l0 a2 t105 _ ?side1 ?side2 A8.out).mono ?_); (case side1 => repeat (first | exact (Kd.C_below HR0.out HB.out) | (with_reducible refine Kd.C_alloc ?_ _) | (with_reducible refine Kd.C_drewN ?_ _) | (with_reducible refine Kd.C_drew ?_))); (case side2 => exact HC0.out); rintro e w11 ⟨v106, rfl, ho0, hb⟩; have n0_ := Aside0.mk (Kd.R_elder' (by (with_reducible repeat (first | apply Kd.R_alloc | apply Kd.R_drewN | apply Kd.R_drew)); exact HO104.out) (Kd.R_base ho0) hb); have n1_ := Aside0.mk (Kd.R_lower (Kd.R_new' ho0 (Kd.R_lt (by (with_reducible repeat (first | apply Kd.R_alloc | apply Kd.R_drewN | apply Kd.R_drew)); exact HO104.out))) (below_size (by repeat (first | (with_reducible first | exact HB.out | apply below_alloc | apply pw_below_drewN | apply below_drew1) | exact HB.out)))); have n2_ := Aside0.mk (below_step (by repeat (first | (with_reducible first | exact HB.out | apply below_alloc | apply pw_below_drewN | apply below_drew1) | exact HB.out)) hb); clear HO104; clear HB; have HO104 := n0_; have HO107 := n1_; have HB := n2_; clear n0_ n1_ n2_; (try clear hb); (try clear hb2); (try clear hk); (try clear hi); (try clear ho0)))
  repeat (go_quiet (first | (go_at_call 17; (with_reducible refine (lambrequinlaw20_shown.calls k  t101 _ A4.out).mono ?_); rintro e w9 ⟨rfl, hb⟩; have n0_ := Aside0.mk (below_step (by repeat (first | (with_reducible first | exact HB.out | apply below_alloc | apply pw_below_drewN | apply below_drew1) | exact HB.out)) hb); clear HB; have HB := n0_; clear n0_; (try clear hb); (try clear hb2); (try clear hk); (try clear hi)) | (go_at_call 19; (with_reducible refine (cfg_Next.calls _ _ l0 a1 t102 _ ?side1 ?side2 A7.out).mono ?_); (case side1 => repeat (first | exact (Kd.C_below HR0.out HB.out) | (with_reducible refine Kd.C_alloc ?_ _) | (with_reducible refine Kd.C_drewN ?_ _) | (with_reducible refine Kd.C_drew ?_))); (case side2 => exact HC0.out); rintro e w10 ⟨v103, rfl, ho0, hb⟩; have n0_ := Aside0.mk (Kd.R_lower ho0 (below_size (by repeat (first | (with_reducible first | exact HB.out | apply below_alloc | apply pw_below_drewN | apply below_drew1) | exact HB.out)))); have n1_ := Aside0.mk (below_step (by repeat (first | (with_reducible first | exact HB.out | apply below_alloc | apply pw_below_drewN | apply below_drew1) | exact HB.out)) hb); clear HB; have HO104 := n0_; have HB := n1_; clear n0_ n1_; (try clear hb); (try clear hb2); (try clear hk); (try clear hi); (try clear ho0)) | (go_at_call 24; (with_reducible refine (cfg_Prev.calls k _ _ l0 a2 t105 _ ?side1 ?side2 A8.out).mono ?_); (case side1 => repeat (first | exact (Kd.C_below HR0.out HB.out) | (with_reducible refine Kd.C_alloc ?_ _) | (with_reducible refine Kd.C_drewN ?_ _) | (with_reducible refine Kd.C_drew ?_))); (case side2 => exact HC0.out); rintro e w11 ⟨v106, rfl, ho0, hb⟩; have n0_ := Aside0.mk (Kd.R_elder' (by (with_reducible repeat (first | apply Kd.R_alloc | apply Kd.R_drewN | apply Kd.R_drew)); exact HO104.out) (Kd.R_base ho0) hb); have n1_ := Aside0.mk (Kd.R_lower (Kd.R_new' ho0 (Kd.R_lt (by (with_reducible repeat (first | apply Kd.R_alloc | apply Kd.R_drewN | apply Kd.R_drew)); exact HO104.out))) (below_size (by repeat (first | (with_reducible first | exact HB.out | apply below_alloc | apply pw_below_drewN | apply below_drew1) | exact HB.out)))); have n2_ := Aside0.mk (below_step (by repeat (first | (with_reducible first | exact HB.out | apply below_alloc | apply pw_below_drewN | apply below_drew1) | exact HB.out)) hb); clear HO104; clear HB; have HO104 := n0_; have HO107 := n1_; have HB := n2_; clear n0_ n1_ n2_; (try clear hb); (try clear hb2); (try clear hk); (try clear hi); (try clear ho0))); try go_wp2_with (first | (go_at_call 17; (with_reducible refine (lambrequinlaw20_shown.calls k  t101 _ A4.out).mono ?_); rintro e w9 ⟨rfl, hb⟩; have n0_ := Aside0.mk (below_step (by repeat (first | (with_reducible first | exact HB.out | apply below_alloc | apply pw_below_drewN | apply below_drew1) | exact HB.out)) hb); clear HB; have HB := n0_; clear n0_; (try clear hb); (try clear hb2); (try clear hk); (try clear hi)) | (go_at_call 19; (with_reducible refine (cfg_Next.calls _ _ l0 a1 t102 _ ?side1 ?side2 A7.out).mono ?_); (case side1 => repeat (first | exact (Kd.C_below HR0.out HB.out) | (with_reducible refine Kd.C_alloc ?_ _) | (with_reducible refine Kd.C_drewN ?_ _) | (with_reducible refine Kd.C_drew ?_))); (case side2 => exact HC0.out); rintro e w10 ⟨v103, rfl, ho0, hb⟩; have n0_ := Aside0.mk (Kd.R_lower ho0 (below_size (by repeat (first | (with_reducible first | exact HB.out | apply below_alloc | apply pw_below_drewN | apply below_drew1) | exact HB.out)))); have n1_ := Aside0.mk (below_step (by repeat (first | (with_reducible first | exact HB.out | apply below_alloc | apply pw_below_drewN | apply below_drew1) | exact HB.out)) hb); clear HB; have HO104 := n0_; have HB := n1_; clear n0_ n1_; (try clear hb); (try clear hb2); (try clear hk); (try clear hi); (try clear ho0)) | (go_at_call 24; (with_reducible refine (cfg_Prev.calls k _ _ l0 a2 t105 _ ?side1 ?side2 A8.out).mono ?_); (case side1 => repeat (first | exact (Kd.C_below HR0.out HB.out) | (with_reducible refine Kd.C_alloc ?_ _) | (with_reducible refine Kd.C_drewN ?_ _) | (with_reducible refine Kd.C_drew ?_))); (case side2 => exact HC0.out); rintro e w11 ⟨v106, rfl, ho0, hb⟩; have n0_ := Aside0.mk (Kd.R_elder' (by (with_reducible repeat (first | apply Kd.R_alloc | apply Kd.R_drewN | apply Kd.R_drew)); exact HO104.out) (Kd.R_base ho0) hb); have n1_ := Aside0.mk (Kd.R_lower (Kd.R_new' ho0 (Kd.R_lt (by (with_reducible repeat (first | apply Kd.R_alloc | apply Kd.R_drewN | apply Kd.R_drew)); exact HO104.out))) (below_size (by repeat (first | (with_reducible first | exact HB.out | apply below_alloc | apply pw_below_drewN | apply below_drew1) | exact HB.out)))); have n2_ := Aside0.mk (below_step (by repeat (first | (with_reducible first | exact HB.out | apply below_alloc | apply pw_below_drewN | apply below_drew1) | exact HB.out)) hb); clear HO104; clear HB; have HO104 := n0_; have HO107 := n1_; have HB := n2_; clear n0_ n1_ n2_; (try clear hb); (try clear hb2); (try clear hk); (try clear hi); (try clear ho0))))
  go_loopg [10, 11] k (fun kq v10 v11 w' => ∃ (x10_1 : Bool) (x11_1 : Int), v10 = .bool x10_1 ∧ v11 = .int .i64 x11_1 ∧ Aside0 (lambrequinlaw20_CfgBack.l0 kq l0 a1 a2 t101 t102 t105 x10_1 x11_1 = some r) ∧ Aside0 (kq ≤ k) ∧ Aside0 (Kd.R (Kd.int .i64) 3 w' w.heap.size (fun k_ => some k_ ≠ (v106 : Value).ownBlock) v103 t102) ∧ Aside0 (Kd.R (Kd.int .i64) 3 w' w.heap.size (fun k_ => some k_ ≠ (v103 : Value).ownBlock) v106 t105) ∧ Aside0 (Below w.heap.size w w'))
  case atStart => exact ⟨(false), (0), (by first | rfl | (simp; done) | (simp [*]; done)), (by first | rfl | (simp; done) | (simp [*]; done)), H', ⟨Nat.le_refl _⟩, ⟨by (with_reducible repeat (first | apply Kd.R_alloc | apply Kd.R_drewN | apply Kd.R_drew)); exact Kd.R_mono HO104.out (fun _ hk => hk.2)⟩, ⟨by (with_reducible repeat (first | apply Kd.R_alloc | apply Kd.R_drewN | apply Kd.R_drew)); exact Kd.R_mono HO107.out (fun _ hk => hk.2)⟩, ⟨by repeat (first | (with_reducible first | exact HB.out | apply below_alloc | apply pw_below_drewN | apply below_drew1) | exact HB.out)⟩⟩
  case round =>
   clear H'
   try clear p2
   try clear c5
   try clear c5b0
   try clear c5b1
   obtain ⟨x10_1, x11_1, rfl, rfl, HA, HK1, HO_8, HO_9, HB⟩ := hrel
   cases gk with
   | zero => exact absurd HA.out (by simp [lambrequinlaw20_CfgBack.l0])
   | succ k1 =>
    have H := HA.out
    clear HA
    simp only [lambrequinlaw20_CfgBack.l0] at H
    by_cases c12 : x11_1 < (t102.length : Int)
    ·rw [if_pos c12] at H
     have c12b0 : decide (x11_1 < (t102.length : Int)) = true := decide_eq_true c12
     clear c12
     by_cases c13 : x10_1 = true
     ·subst c13
      have H1 : (if 0 ≤ x11_1 then (if (rd t102 x11_1) < 0 then (some false) else (if (rd t102 x11_1) ≥ (l0.length : Int) then (some false) else (if x11_1 > 0 then (if 0 ≤ (wrap64 (x11_1 - 1)) then (if (wrap64 (x11_1 - 1)) < (t102.length : Int) then (if (rd t102 x11_1) ≤ (rd t102 (wrap64 (x11_1 - 1))) then (some false) else (lambrequinlaw20_CfgBack.l0 k1 l0 a1 a2 t101 t102 t105 true (wrap64 (x11_1 + 1)))) else (none)) else (none)) else (lambrequinlaw20_CfgBack.l0 k1 l0 a1 a2 t101 t102 t105 true (wrap64 (x11_1 + 1)))))) else (none)) = some r := by rw [if_pos rfl] at H; exact H
      clear H
      have H := H1
      clear H1
      by_cases c14 : 0 ≤ x11_1
      ·rw [if_pos c14] at H
       have c14b0 : decide (0 ≤ x11_1) = true := decide_eq_true c14
       clear c14
       by_cases c15 : (rd t102 x11_1) < 0
       ·rw [if_pos c15] at H
        have c15b0 : decide ((rd t102 x11_1) < 0) = true := decide_eq_true c15
        clear c15
        obtain rfl := Option.some.inj H
        obtain ⟨Ao16, co16, eo16⟩ := Kd.R_slice HO_8.out
        subst eo16
        have p108 : 0 ≤ (x11_1 : Int) := of_decide_eq_true (by first | (with_reducible assumption) | assumption)
        have q108 : x11_1 < (t102.length : Int) := of_decide_eq_true (by first | (with_reducible assumption) | assumption)
        obtain ⟨ad108, e108, hx108_0⟩ := Kd.at_int (Kd.R_reads' HO_8.out).2.2 x11_1 p108 q108
        cases e108
        replace p108 := eq_true p108
        replace q108 := eq_true q108
        go_wp2
        repeat (go_quiet (fail); try go_wp2)
        go_ret
        exact ⟨by first | rfl | (simp [errW_none, errW_some] <;> rfl) | (simp [*, errW_none, errW_some] <;> rfl), by repeat (first | (with_reducible first | exact HB.out | apply below_alloc | apply pw_below_drewN | apply below_drew1) | exact HB.out)⟩
       ·rw [if_neg c15] at H
        have c15b0 : decide ((rd t102 x11_1) < 0) = false := decide_eq_false c15
        clear c15
        by_cases c17 : (rd t102 x11_1) ≥ (l0.length : Int)
        ·rw [if_pos c17] at H
         have c17b0 : decide ((l0.length : Int) ≤ (rd t102 x11_1)) = true := decide_eq_true c17
         clear c17
         obtain rfl := Option.some.inj H
         obtain ⟨Ao18, co18, eo18⟩ := Kd.R_slice HO_8.out
         subst eo18
         have p108 : 0 ≤ (x11_1 : Int) := of_decide_eq_true (by first | (with_reducible assumption) | assumption)
         have q108 : x11_1 < (t102.length : Int) := of_decide_eq_true (by first | (with_reducible assumption) | assumption)
         obtain ⟨ad108, e108, hx108_0⟩ := Kd.at_int (Kd.R_reads' HO_8.out).2.2 x11_1 p108 q108
         cases e108
         replace p108 := eq_true p108
         replace q108 := eq_true q108
         have p109 : 0 ≤ (x11_1 : Int) := of_decide_eq_true (by first | (with_reducible assumption) | assumption)
         have q109 : x11_1 < (t102.length : Int) := of_decide_eq_true (by first | (with_reducible assumption) | assumption)
         obtain ⟨ad109, e109, hx109_0⟩ := Kd.at_int (Kd.R_reads' HO_8.out).2.2 x11_1 p109 q109
         obtain rfl : ad108 = ad109 := (by injection e109)
         replace p109 := eq_true p109
         replace q109 := eq_true q109
         go_wp2
         repeat (go_quiet (fail); try go_wp2)
         go_ret
         exact ⟨by first | rfl | (simp [errW_none, errW_some] <;> rfl) | (simp [*, errW_none, errW_some] <;> rfl), by repeat (first | (with_reducible first | exact HB.out | apply below_alloc | apply pw_below_drewN | apply below_drew1) | exact HB.out)⟩
        ·rw [if_neg c17] at H
         have c17b0 : decide ((l0.length : Int) ≤ (rd t102 x11_1)) = false := decide_eq_false c17
         clear c17
         by_cases c19 : x11_1 > 0
         ·rw [if_pos c19] at H
          have c19b0 : decide (0 < x11_1) = true := decide_eq_true c19
          clear c19
          obtain ⟨ji20, hji20⟩ : ∃ j_ : Int, (wrap64 (x11_1 - 1)) = j_ := ⟨_, rfl⟩
          replace H : (if 0 ≤ (ji20) then (if (ji20) < (t102.length : Int) then (if (rd t102 x11_1) ≤ (rd t102 (ji20)) then (some false) else (lambrequinlaw20_CfgBack.l0 k1 l0 a1 a2 t101 t102 t105 true (wrap64 (x11_1 + 1)))) else (none)) else (none)) = some r := by first | (rw [hji20] at H; exact H) | (simp only [hji20] at H ⊢; exact H)
          have hji20w : (IntKind.i64.wrap (x11_1 - 1)) = ji20 := (i64_w _).trans hji20
          by_cases c21 : 0 ≤ (ji20)
          ·rw [if_pos c21] at H
           have c21b0 : decide (0 ≤ (ji20)) = true := decide_eq_true c21
           clear c21
           by_cases c22 : (ji20) < (t102.length : Int)
           ·rw [if_pos c22] at H
            have c22b0 : decide ((ji20) < (t102.length : Int)) = true := decide_eq_true c22
            clear c22
            by_cases c23 : (rd t102 x11_1) ≤ (rd t102 (ji20))
            ·rw [if_pos c23] at H
             have c23b0 : decide ((rd t102 x11_1) ≤ (rd t102 (ji20))) = true := decide_eq_true c23
             clear c23
             obtain rfl := Option.some.inj H
             obtain ⟨Ao24, co24, eo24⟩ := Kd.R_slice HO_8.out
             subst eo24
             have p108 : 0 ≤ (x11_1 : Int) := of_decide_eq_true (by first | (with_reducible assumption) | assumption)
             have q108 : x11_1 < (t102.length : Int) := of_decide_eq_true (by first | (with_reducible assumption) | assumption)
             obtain ⟨ad108, e108, hx108_0⟩ := Kd.at_int (Kd.R_reads' HO_8.out).2.2 x11_1 p108 q108
             cases e108
             replace p108 := eq_true p108
             replace q108 := eq_true q108
             have p109 : 0 ≤ (x11_1 : Int) := of_decide_eq_true (by first | (with_reducible assumption) | assumption)
             have q109 : x11_1 < (t102.length : Int) := of_decide_eq_true (by first | (with_reducible assumption) | assumption)
             obtain ⟨ad109, e109, hx109_0⟩ := Kd.at_int (Kd.R_reads' HO_8.out).2.2 x11_1 p109 q109
             obtain rfl : ad108 = ad109 := (by injection e109)
             replace p109 := eq_true p109
             replace q109 := eq_true q109
             have p110 : 0 ≤ (x11_1 : Int) := of_decide_eq_true (by first | (with_reducible assumption) | assumption)
             have q110 : x11_1 < (t102.length : Int) := of_decide_eq_true (by first | (with_reducible assumption) | assumption)
             obtain ⟨ad110, e110, hx110_0⟩ := Kd.at_int (Kd.R_reads' HO_8.out).2.2 x11_1 p110 q110
             obtain rfl : ad108 = ad110 := (by injection e110)
             replace p110 := eq_true p110
             replace q110 := eq_true q110
             have p111 : 0 ≤ ((ji20) : Int) := of_decide_eq_true (by first | (with_reducible assumption) | assumption)
             have q111 : (ji20) < (t102.length : Int) := of_decide_eq_true (by first | (with_reducible assumption) | assumption)
             obtain ⟨ad111, e111, hx111_0⟩ := Kd.at_int (Kd.R_reads' HO_8.out).2.2 (ji20) p111 q111
             obtain rfl : ad108 = ad111 := (by injection e111)
             replace p111 := eq_true p111
             replace q111 := eq_true q111
             go_wp2
             repeat (go_quiet (fail); try go_wp2)
             go_ret
             exact ⟨by first | rfl | (simp [errW_none, errW_some] <;> rfl) | (simp only [← hji20]; first | rfl | (simp [errW_none, errW_some] <;> rfl)) | (simp [*, errW_none, errW_some] <;> rfl), by repeat (first | (with_reducible first | exact HB.out | apply below_alloc | apply pw_below_drewN | apply below_drew1) | exact HB.out)⟩
            ·rw [if_neg c23] at H
             have c23b0 : decide ((rd t102 x11_1) ≤ (rd t102 (ji20))) = false := decide_eq_false c23
             clear c23
             have H' := Aside0.mk H
             clear H
             obtain ⟨Ao25, co25, eo25⟩ := Kd.R_slice HO_8.out
             subst eo25
             have p108 : 0 ≤ (x11_1 : Int) := of_decide_eq_true (by first | (with_reducible assumption) | assumption)
             have q108 : x11_1 < (t102.length : Int) := of_decide_eq_true (by first | (with_reducible assumption) | assumption)
             obtain ⟨ad108, e108, hx108_0⟩ := Kd.at_int (Kd.R_reads' HO_8.out).2.2 x11_1 p108 q108
             cases e108
             replace p108 := eq_true p108
             replace q108 := eq_true q108
             have p109 : 0 ≤ (x11_1 : Int) := of_decide_eq_true (by first | (with_reducible assumption) | assumption)
             have q109 : x11_1 < (t102.length : Int) := of_decide_eq_true (by first | (with_reducible assumption) | assumption)
             obtain ⟨ad109, e109, hx109_0⟩ := Kd.at_int (Kd.R_reads' HO_8.out).2.2 x11_1 p109 q109
             obtain rfl : ad108 = ad109 := (by injection e109)
             replace p109 := eq_true p109
             replace q109 := eq_true q109
             have p110 : 0 ≤ (x11_1 : Int) := of_decide_eq_true (by first | (with_reducible assumption) | assumption)
             have q110 : x11_1 < (t102.length : Int) := of_decide_eq_true (by first | (with_reducible assumption) | assumption)
             obtain ⟨ad110, e110, hx110_0⟩ := Kd.at_int (Kd.R_reads' HO_8.out).2.2 x11_1 p110 q110
             obtain rfl : ad108 = ad110 := (by injection e110)
             replace p110 := eq_true p110
             replace q110 := eq_true q110
             have p111 : 0 ≤ ((ji20) : Int) := of_decide_eq_true (by first | (with_reducible assumption) | assumption)
             have q111 : (ji20) < (t102.length : Int) := of_decide_eq_true (by first | (with_reducible assumption) | assumption)
             obtain ⟨ad111, e111, hx111_0⟩ := Kd.at_int (Kd.R_reads' HO_8.out).2.2 (ji20) p111 q111
             obtain rfl : ad108 = ad111 := (by injection e111)
             replace p111 := eq_true p111
             replace q111 := eq_true q111
             go_wp2
             repeat (go_quiet (fail); try go_wp2)
             go_roundg k1
             case measure => have := HK1.out; omega
             case rel => exact ⟨(true), (wrap64 (x11_1 + 1)), (by first | rfl | (simp; done) | (simp [*]; done)), (by first | rfl | (simp; done) | (simp [*]; done)), H', ⟨by have := HK1.out; omega⟩, ⟨by (with_reducible repeat (first | apply Kd.R_alloc | apply Kd.R_drewN | apply Kd.R_drew)); exact HO_8.out⟩, ⟨by (with_reducible repeat (first | apply Kd.R_alloc | apply Kd.R_drewN | apply Kd.R_drew)); exact HO_9.out⟩, ⟨by repeat (first | (with_reducible first | exact HB.out | apply below_alloc | apply pw_below_drewN | apply below_drew1) | exact HB.out)⟩⟩
           ·rw [if_neg c22] at H
            exact absurd H (by simp)
          ·rw [if_neg c21] at H
           exact absurd H (by simp)
         ·rw [if_neg c19] at H
          have c19b0 : decide (0 < x11_1) = false := decide_eq_false c19
          clear c19
          have H' := Aside0.mk H
          clear H
          obtain ⟨Ao26, co26, eo26⟩ := Kd.R_slice HO_8.out
          subst eo26
          have p108 : 0 ≤ (x11_1 : Int) := of_decide_eq_true (by first | (with_reducible assumption) | assumption)
          have q108 : x11_1 < (t102.length : Int) := of_decide_eq_true (by first | (with_reducible assumption) | assumption)
          obtain ⟨ad108, e108, hx108_0⟩ := Kd.at_int (Kd.R_reads' HO_8.out).2.2 x11_1 p108 q108
          cases e108
          replace p108 := eq_true p108
          replace q108 := eq_true q108
          have p109 : 0 ≤ (x11_1 : Int) := of_decide_eq_true (by first | (with_reducible assumption) | assumption)
          have q109 : x11_1 < (t102.length : Int) := of_decide_eq_true (by first | (with_reducible assumption) | assumption)
          obtain ⟨ad109, e109, hx109_0⟩ := Kd.at_int (Kd.R_reads' HO_8.out).2.2 x11_1 p109 q109
          obtain rfl : ad108 = ad109 := (by injection e109)
          replace p109 := eq_true p109
          replace q109 := eq_true q109
          go_wp2
          repeat (go_quiet (fail); try go_wp2)
          go_roundg k1
          case measure => have := HK1.out; omega
          case rel => exact ⟨(true), (wrap64 (x11_1 + 1)), (by first | rfl | (simp; done) | (simp [*]; done)), (by first | rfl | (simp; done) | (simp [*]; done)), H', ⟨by have := HK1.out; omega⟩, ⟨by (with_reducible repeat (first | apply Kd.R_alloc | apply Kd.R_drewN | apply Kd.R_drew)); exact HO_8.out⟩, ⟨by (with_reducible repeat (first | apply Kd.R_alloc | apply Kd.R_drewN | apply Kd.R_drew)); exact HO_9.out⟩, ⟨by repeat (first | (with_reducible first | exact HB.out | apply below_alloc | apply pw_below_drewN | apply below_drew1) | exact HB.out)⟩⟩
      ·rw [if_neg c14] at H
       exact absurd H (by simp)
     ·replace c13 := Bool.eq_false_iff.mpr c13
      subst c13
      have H1 : (if 0 ≤ x11_1 then (if (rd t102 x11_1) < 0 then (some false) else (if (rd t102 x11_1) ≥ (l0.length : Int) then (some false) else (if x11_1 > 0 then (if 0 ≤ (wrap64 (x11_1 - 1)) then (if (wrap64 (x11_1 - 1)) < (t102.length : Int) then (if (rd t102 x11_1) ≤ (rd t102 (wrap64 (x11_1 - 1))) then (some false) else (lambrequinlaw20_CfgBack.l0 k1 l0 a1 a2 t101 t102 t105 ((rd t102 x11_1) == a2) (wrap64 (x11_1 + 1)))) else (none)) else (none)) else (lambrequinlaw20_CfgBack.l0 k1 l0 a1 a2 t101 t102 t105 ((rd t102 x11_1) == a2) (wrap64 (x11_1 + 1)))))) else (none)) = some r := by rw [if_neg (show ¬ (false = true) by decide)] at H; exact H
      clear H
      have H := H1
      clear H1
      by_cases c27 : 0 ≤ x11_1
      ·rw [if_pos c27] at H
       have c27b0 : decide (0 ≤ x11_1) = true := decide_eq_true c27
       clear c27
       by_cases c28 : (rd t102 x11_1) < 0
       ·rw [if_pos c28] at H
        have c28b0 : decide ((rd t102 x11_1) < 0) = true := decide_eq_true c28
        clear c28
        obtain rfl := Option.some.inj H
        obtain ⟨Ao29, co29, eo29⟩ := Kd.R_slice HO_8.out
        subst eo29
        have p112 : 0 ≤ (x11_1 : Int) := of_decide_eq_true (by first | (with_reducible assumption) | assumption)
        have q112 : x11_1 < (t102.length : Int) := of_decide_eq_true (by first | (with_reducible assumption) | assumption)
        obtain ⟨ad112, e112, hx112_0⟩ := Kd.at_int (Kd.R_reads' HO_8.out).2.2 x11_1 p112 q112
        cases e112
        replace p112 := eq_true p112
        replace q112 := eq_true q112
        have p113 : 0 ≤ (x11_1 : Int) := of_decide_eq_true (by first | (with_reducible assumption) | assumption)
        have q113 : x11_1 < (t102.length : Int) := of_decide_eq_true (by first | (with_reducible assumption) | assumption)
        obtain ⟨ad113, e113, hx113_0⟩ := Kd.at_int (Kd.R_reads' HO_8.out).2.2 x11_1 p113 q113
        obtain rfl : ad112 = ad113 := (by injection e113)
        replace p113 := eq_true p113
        replace q113 := eq_true q113
        go_wp2
        repeat (go_quiet (fail); try go_wp2)
        go_ret
        exact ⟨by first | rfl | (simp [errW_none, errW_some] <;> rfl) | (simp [*, errW_none, errW_some] <;> rfl), by repeat (first | (with_reducible first | exact HB.out | apply below_alloc | apply pw_below_drewN | apply below_drew1) | exact HB.out)⟩
       ·rw [if_neg c28] at H
        have c28b0 : decide ((rd t102 x11_1) < 0) = false := decide_eq_false c28
        clear c28
        by_cases c30 : (rd t102 x11_1) ≥ (l0.length : Int)
        ·rw [if_pos c30] at H
         have c30b0 : decide ((l0.length : Int) ≤ (rd t102 x11_1)) = true := decide_eq_true c30
         clear c30
         obtain rfl := Option.some.inj H
         obtain ⟨Ao31, co31, eo31⟩ := Kd.R_slice HO_8.out
         subst eo31
         have p112 : 0 ≤ (x11_1 : Int) := of_decide_eq_true (by first | (with_reducible assumption) | assumption)
         have q112 : x11_1 < (t102.length : Int) := of_decide_eq_true (by first | (with_reducible assumption) | assumption)
         obtain ⟨ad112, e112, hx112_0⟩ := Kd.at_int (Kd.R_reads' HO_8.out).2.2 x11_1 p112 q112
         cases e112
         replace p112 := eq_true p112
         replace q112 := eq_true q112
         have p113 : 0 ≤ (x11_1 : Int) := of_decide_eq_true (by first | (with_reducible assumption) | assumption)
         have q113 : x11_1 < (t102.length : Int) := of_decide_eq_true (by first | (with_reducible assumption) | assumption)
         obtain ⟨ad113, e113, hx113_0⟩ := Kd.at_int (Kd.R_reads' HO_8.out).2.2 x11_1 p113 q113
         obtain rfl : ad112 = ad113 := (by injection e113)
         replace p113 := eq_true p113
         replace q113 := eq_true q113
         have p114 : 0 ≤ (x11_1 : Int) := of_decide_eq_true (by first | (with_reducible assumption) | assumption)
         have q114 : x11_1 < (t102.length : Int) := of_decide_eq_true (by first | (with_reducible assumption) | assumption)
         obtain ⟨ad114, e114, hx114_0⟩ := Kd.at_int (Kd.R_reads' HO_8.out).2.2 x11_1 p114 q114
         obtain rfl : ad112 = ad114 := (by injection e114)
         replace p114 := eq_true p114
         replace q114 := eq_true q114
         go_wp2
         repeat (go_quiet (fail); try go_wp2)
         go_ret
         exact ⟨by first | rfl | (simp [errW_none, errW_some] <;> rfl) | (simp [*, errW_none, errW_some] <;> rfl), by repeat (first | (with_reducible first | exact HB.out | apply below_alloc | apply pw_below_drewN | apply below_drew1) | exact HB.out)⟩
        ·rw [if_neg c30] at H
         have c30b0 : decide ((l0.length : Int) ≤ (rd t102 x11_1)) = false := decide_eq_false c30
         clear c30
         by_cases c32 : x11_1 > 0
         ·rw [if_pos c32] at H
          have c32b0 : decide (0 < x11_1) = true := decide_eq_true c32
          clear c32
          obtain ⟨ji33, hji33⟩ : ∃ j_ : Int, (wrap64 (x11_1 - 1)) = j_ := ⟨_, rfl⟩
          replace H : (if 0 ≤ (ji33) then (if (ji33) < (t102.length : Int) then (if (rd t102 x11_1) ≤ (rd t102 (ji33)) then (some false) else (lambrequinlaw20_CfgBack.l0 k1 l0 a1 a2 t101 t102 t105 ((rd t102 x11_1) == a2) (wrap64 (x11_1 + 1)))) else (none)) else (none)) = some r := by first | (rw [hji33] at H; exact H) | (simp only [hji33] at H ⊢; exact H)
          have hji33w : (IntKind.i64.wrap (x11_1 - 1)) = ji33 := (i64_w _).trans hji33
          by_cases c34 : 0 ≤ (ji33)
          ·rw [if_pos c34] at H
           have c34b0 : decide (0 ≤ (ji33)) = true := decide_eq_true c34
           clear c34
           by_cases c35 : (ji33) < (t102.length : Int)
           ·rw [if_pos c35] at H
            have c35b0 : decide ((ji33) < (t102.length : Int)) = true := decide_eq_true c35
            clear c35
            by_cases c36 : (rd t102 x11_1) ≤ (rd t102 (ji33))
            ·rw [if_pos c36] at H
             have c36b0 : decide ((rd t102 x11_1) ≤ (rd t102 (ji33))) = true := decide_eq_true c36
             clear c36
             obtain rfl := Option.some.inj H
             obtain ⟨Ao37, co37, eo37⟩ := Kd.R_slice HO_8.out
             subst eo37
             have p112 : 0 ≤ (x11_1 : Int) := of_decide_eq_true (by first | (with_reducible assumption) | assumption)
             have q112 : x11_1 < (t102.length : Int) := of_decide_eq_true (by first | (with_reducible assumption) | assumption)
             obtain ⟨ad112, e112, hx112_0⟩ := Kd.at_int (Kd.R_reads' HO_8.out).2.2 x11_1 p112 q112
             cases e112
             replace p112 := eq_true p112
             replace q112 := eq_true q112
             have p113 : 0 ≤ (x11_1 : Int) := of_decide_eq_true (by first | (with_reducible assumption) | assumption)
             have q113 : x11_1 < (t102.length : Int) := of_decide_eq_true (by first | (with_reducible assumption) | assumption)
             obtain ⟨ad113, e113, hx113_0⟩ := Kd.at_int (Kd.R_reads' HO_8.out).2.2 x11_1 p113 q113
             obtain rfl : ad112 = ad113 := (by injection e113)
             replace p113 := eq_true p113
             replace q113 := eq_true q113
             have p114 : 0 ≤ (x11_1 : Int) := of_decide_eq_true (by first | (with_reducible assumption) | assumption)
             have q114 : x11_1 < (t102.length : Int) := of_decide_eq_true (by first | (with_reducible assumption) | assumption)
             obtain ⟨ad114, e114, hx114_0⟩ := Kd.at_int (Kd.R_reads' HO_8.out).2.2 x11_1 p114 q114
             obtain rfl : ad112 = ad114 := (by injection e114)
             replace p114 := eq_true p114
             replace q114 := eq_true q114
             have p115 : 0 ≤ (x11_1 : Int) := of_decide_eq_true (by first | (with_reducible assumption) | assumption)
             have q115 : x11_1 < (t102.length : Int) := of_decide_eq_true (by first | (with_reducible assumption) | assumption)
             obtain ⟨ad115, e115, hx115_0⟩ := Kd.at_int (Kd.R_reads' HO_8.out).2.2 x11_1 p115 q115
             obtain rfl : ad112 = ad115 := (by injection e115)
             replace p115 := eq_true p115
             replace q115 := eq_true q115
             have p116 : 0 ≤ ((ji33) : Int) := of_decide_eq_true (by first | (with_reducible assumption) | assumption)
             have q116 : (ji33) < (t102.length : Int) := of_decide_eq_true (by first | (with_reducible assumption) | assumption)
             obtain ⟨ad116, e116, hx116_0⟩ := Kd.at_int (Kd.R_reads' HO_8.out).2.2 (ji33) p116 q116
             obtain rfl : ad112 = ad116 := (by injection e116)
             replace p116 := eq_true p116
             replace q116 := eq_true q116
             go_wp2
             repeat (go_quiet (fail); try go_wp2)
             go_ret
             exact ⟨by first | rfl | (simp [errW_none, errW_some] <;> rfl) | (simp only [← hji33]; first | rfl | (simp [errW_none, errW_some] <;> rfl)) | (simp [*, errW_none, errW_some] <;> rfl), by repeat (first | (with_reducible first | exact HB.out | apply below_alloc | apply pw_below_drewN | apply below_drew1) | exact HB.out)⟩
            ·rw [if_neg c36] at H
             have c36b0 : decide ((rd t102 x11_1) ≤ (rd t102 (ji33))) = false := decide_eq_false c36
             clear c36
             have H' := Aside0.mk H
             clear H
             obtain ⟨Ao38, co38, eo38⟩ := Kd.R_slice HO_8.out
             subst eo38
             have p112 : 0 ≤ (x11_1 : Int) := of_decide_eq_true (by first | (with_reducible assumption) | assumption)
             have q112 : x11_1 < (t102.length : Int) := of_decide_eq_true (by first | (with_reducible assumption) | assumption)
             obtain ⟨ad112, e112, hx112_0⟩ := Kd.at_int (Kd.R_reads' HO_8.out).2.2 x11_1 p112 q112
             cases e112
             replace p112 := eq_true p112
             replace q112 := eq_true q112
             have p113 : 0 ≤ (x11_1 : Int) := of_decide_eq_true (by first | (with_reducible assumption) | assumption)
             have q113 : x11_1 < (t102.length : Int) := of_decide_eq_true (by first | (with_reducible assumption) | assumption)
             obtain ⟨ad113, e113, hx113_0⟩ := Kd.at_int (Kd.R_reads' HO_8.out).2.2 x11_1 p113 q113
             obtain rfl : ad112 = ad113 := (by injection e113)
             replace p113 := eq_true p113
             replace q113 := eq_true q113
             have p114 : 0 ≤ (x11_1 : Int) := of_decide_eq_true (by first | (with_reducible assumption) | assumption)
             have q114 : x11_1 < (t102.length : Int) := of_decide_eq_true (by first | (with_reducible assumption) | assumption)
             obtain ⟨ad114, e114, hx114_0⟩ := Kd.at_int (Kd.R_reads' HO_8.out).2.2 x11_1 p114 q114
             obtain rfl : ad112 = ad114 := (by injection e114)
             replace p114 := eq_true p114
             replace q114 := eq_true q114
             have p115 : 0 ≤ (x11_1 : Int) := of_decide_eq_true (by first | (with_reducible assumption) | assumption)
             have q115 : x11_1 < (t102.length : Int) := of_decide_eq_true (by first | (with_reducible assumption) | assumption)
             obtain ⟨ad115, e115, hx115_0⟩ := Kd.at_int (Kd.R_reads' HO_8.out).2.2 x11_1 p115 q115
             obtain rfl : ad112 = ad115 := (by injection e115)
             replace p115 := eq_true p115
             replace q115 := eq_true q115
             have p116 : 0 ≤ ((ji33) : Int) := of_decide_eq_true (by first | (with_reducible assumption) | assumption)
             have q116 : (ji33) < (t102.length : Int) := of_decide_eq_true (by first | (with_reducible assumption) | assumption)
             obtain ⟨ad116, e116, hx116_0⟩ := Kd.at_int (Kd.R_reads' HO_8.out).2.2 (ji33) p116 q116
             obtain rfl : ad112 = ad116 := (by injection e116)
             replace p116 := eq_true p116
             replace q116 := eq_true q116
             go_wp2
             repeat (go_quiet (fail); try go_wp2)
             go_roundg k1
             case measure => have := HK1.out; omega
             case rel => exact ⟨(((rd t102 x11_1) == a2)), (wrap64 (x11_1 + 1)), (by first | rfl | (simp; done) | (simp [*]; done)), (by first | rfl | (simp; done) | (simp [*]; done)), H', ⟨by have := HK1.out; omega⟩, ⟨by (with_reducible repeat (first | apply Kd.R_alloc | apply Kd.R_drewN | apply Kd.R_drew)); exact HO_8.out⟩, ⟨by (with_reducible repeat (first | apply Kd.R_alloc | apply Kd.R_drewN | apply Kd.R_drew)); exact HO_9.out⟩, ⟨by repeat (first | (with_reducible first | exact HB.out | apply below_alloc | apply pw_below_drewN | apply below_drew1) | exact HB.out)⟩⟩
           ·rw [if_neg c35] at H
            exact absurd H (by simp)
          ·rw [if_neg c34] at H
           exact absurd H (by simp)
         ·rw [if_neg c32] at H
          have c32b0 : decide (0 < x11_1) = false := decide_eq_false c32
          clear c32
          have H' := Aside0.mk H
          clear H
          obtain ⟨Ao39, co39, eo39⟩ := Kd.R_slice HO_8.out
          subst eo39
          have p112 : 0 ≤ (x11_1 : Int) := of_decide_eq_true (by first | (with_reducible assumption) | assumption)
          have q112 : x11_1 < (t102.length : Int) := of_decide_eq_true (by first | (with_reducible assumption) | assumption)
          obtain ⟨ad112, e112, hx112_0⟩ := Kd.at_int (Kd.R_reads' HO_8.out).2.2 x11_1 p112 q112
          cases e112
          replace p112 := eq_true p112
          replace q112 := eq_true q112
          have p113 : 0 ≤ (x11_1 : Int) := of_decide_eq_true (by first | (with_reducible assumption) | assumption)
          have q113 : x11_1 < (t102.length : Int) := of_decide_eq_true (by first | (with_reducible assumption) | assumption)
          obtain ⟨ad113, e113, hx113_0⟩ := Kd.at_int (Kd.R_reads' HO_8.out).2.2 x11_1 p113 q113
          obtain rfl : ad112 = ad113 := (by injection e113)
          replace p113 := eq_true p113
          replace q113 := eq_true q113
          have p114 : 0 ≤ (x11_1 : Int) := of_decide_eq_true (by first | (with_reducible assumption) | assumption)
          have q114 : x11_1 < (t102.length : Int) := of_decide_eq_true (by first | (with_reducible assumption) | assumption)
          obtain ⟨ad114, e114, hx114_0⟩ := Kd.at_int (Kd.R_reads' HO_8.out).2.2 x11_1 p114 q114
          obtain rfl : ad112 = ad114 := (by injection e114)
          replace p114 := eq_true p114
          replace q114 := eq_true q114
          go_wp2
          repeat (go_quiet (fail); try go_wp2)
          go_roundg k1
          case measure => have := HK1.out; omega
          case rel => exact ⟨(((rd t102 x11_1) == a2)), (wrap64 (x11_1 + 1)), (by first | rfl | (simp; done) | (simp [*]; done)), (by first | rfl | (simp; done) | (simp [*]; done)), H', ⟨by have := HK1.out; omega⟩, ⟨by (with_reducible repeat (first | apply Kd.R_alloc | apply Kd.R_drewN | apply Kd.R_drew)); exact HO_8.out⟩, ⟨by (with_reducible repeat (first | apply Kd.R_alloc | apply Kd.R_drewN | apply Kd.R_drew)); exact HO_9.out⟩, ⟨by repeat (first | (with_reducible first | exact HB.out | apply below_alloc | apply pw_below_drewN | apply below_drew1) | exact HB.out)⟩⟩
      ·rw [if_neg c27] at H
       exact absurd H (by simp)
    ·rw [if_neg c12] at H
     have c12b0 : decide (x11_1 < (t102.length : Int)) = false := decide_eq_false c12
     clear c12
     have H' := Aside0.mk H
     clear H
     obtain ⟨Ao40, co40, eo40⟩ := Kd.R_slice HO_8.out
     subst eo40
     go_wp2
     repeat (go_quiet (fail); try go_wp2)
     go_loopg [12, 13] k1 (fun kq v12 v13 w' => ∃ (x12_2 : Bool) (x13_2 : Int), v12 = .bool x12_2 ∧ v13 = .int .i64 x13_2 ∧ Aside0 (lambrequinlaw20_CfgBack.l1 kq a1 t101 t102 t105 x10_1 x12_2 x13_2 = some r) ∧ Aside0 (kq ≤ k1) ∧ Aside0 (Kd.R (Kd.int .i64) 3 w' w.heap.size (fun k_ => some k_ ≠ (v106 : Value).ownBlock) (.slice Ao40 t102.length co40) t102) ∧ Aside0 (Kd.R (Kd.int .i64) 3 w' w.heap.size (fun k_ => some k_ ≠ ((.slice Ao40 t102.length co40) : Value).ownBlock) v106 t105) ∧ Aside0 (Below w.heap.size w w'))
     case atStart => exact ⟨(false), (0), (by first | rfl | (simp; done) | (simp [*]; done)), (by first | rfl | (simp; done) | (simp [*]; done)), H', ⟨Nat.le_refl _⟩, ⟨by (with_reducible repeat (first | apply Kd.R_alloc | apply Kd.R_drewN | apply Kd.R_drew)); exact HO_8.out⟩, ⟨by (with_reducible repeat (first | apply Kd.R_alloc | apply Kd.R_drewN | apply Kd.R_drew)); exact HO_9.out⟩, ⟨by repeat (first | (with_reducible first | exact HB.out | apply below_alloc | apply pw_below_drewN | apply below_drew1) | exact HB.out)⟩⟩
     case round =>
      clear H'
      try clear c1
      try clear p1
      try clear q1
      try clear hx1
      try clear c2
      try clear p2
      try clear c3
      try clear c5
      try clear c5b0
      try clear c5b1
      try clear p6
      try clear p10
      try clear q10
      try clear hx10
      try clear p11
      try clear q11
      try clear hx11
      try clear c12
      try clear c12b0
      try clear c13
      try clear c14
      try clear c14b0
      try clear c15
      try clear c15b0
      try clear c17
      try clear c17b0
      try clear c19
      try clear c19b0
      try clear c21
      try clear c21b0
      try clear c22
      try clear c22b0
      try clear c23
      try clear c23b0
      try clear c27
      try clear c27b0
      try clear c28
      try clear c28b0
      try clear c30
      try clear c30b0
      try clear c32
      try clear c32b0
      try clear c34
      try clear c34b0
      try clear c35
      try clear c35b0
      try clear c36
      try clear c36b0
      try clear hx108_0
      try clear hx109_0
      try clear hx110_0
      try clear hx111_0
      try clear hx112_0
      try clear hx113_0
      try clear hx114_0
      try clear hx115_0
      try clear hx116_0
      try clear p108
      try clear p109
      try clear p110
      try clear p111
      try clear p112
      try clear p113
      try clear p114
      try clear p115
      try clear p116
      try clear p2
      try clear q108
      try clear q109
      try clear q110
      try clear q111
      try clear q112
      try clear q113
      try clear q114
      try clear q115
      try clear q116
      obtain ⟨x12_2, x13_2, rfl, rfl, HA, HK2, HO_8, HO_9, HB⟩ := hrel
      cases gk with
      | zero => exact absurd HA.out (by simp [lambrequinlaw20_CfgBack.l1])
      | succ k2 =>
       have H := HA.out
       clear HA
       simp only [lambrequinlaw20_CfgBack.l1] at H
       by_cases c41 : x13_2 < (t105.length : Int)
       ·rw [if_pos c41] at H
        have c41b0 : decide (x13_2 < (t105.length : Int)) = true := decide_eq_true c41
        clear c41
        by_cases c42 : x12_2 = true
        ·subst c42
         have H1 : (lambrequinlaw20_CfgBack.l1 k2 a1 t101 t102 t105 x10_1 true (wrap64 (x13_2 + 1))) = some r := by rw [if_pos rfl] at H; exact H
         clear H
         have H := H1
         clear H1
         have H' := Aside0.mk H
         clear H
         obtain ⟨Ao43, co43, eo43⟩ := Kd.R_slice HO_9.out
         subst eo43
         go_wp2
         repeat (go_quiet (fail); try go_wp2)
         go_roundg k2
         case measure => have := HK1.out; have := HK2.out; omega
         case rel => exact ⟨(true), (wrap64 (x13_2 + 1)), (by first | rfl | (simp; done) | (simp [*]; done)), (by first | rfl | (simp; done) | (simp [*]; done)), H', ⟨by have := HK1.out; have := HK2.out; omega⟩, ⟨by (with_reducible repeat (first | apply Kd.R_alloc | apply Kd.R_drewN | apply Kd.R_drew)); exact HO_8.out⟩, ⟨by (with_reducible repeat (first | apply Kd.R_alloc | apply Kd.R_drewN | apply Kd.R_drew)); exact HO_9.out⟩, ⟨by repeat (first | (with_reducible first | exact HB.out | apply below_alloc | apply pw_below_drewN | apply below_drew1) | exact HB.out)⟩⟩
        ·replace c42 := Bool.eq_false_iff.mpr c42
         subst c42
         have H1 : (if 0 ≤ x13_2 then (lambrequinlaw20_CfgBack.l1 k2 a1 t101 t102 t105 x10_1 ((rd t105 x13_2) == a1) (wrap64 (x13_2 + 1))) else (none)) = some r := by rw [if_neg (show ¬ (false = true) by decide)] at H; exact H
         clear H
         have H := H1
         clear H1
         by_cases c44 : 0 ≤ x13_2
         ·rw [if_pos c44] at H
          have c44b0 : decide (0 ≤ x13_2) = true := decide_eq_true c44
          clear c44
          have H' := Aside0.mk H
          clear H
          obtain ⟨Ao45, co45, eo45⟩ := Kd.R_slice HO_9.out
          subst eo45
          have p117 : 0 ≤ (x13_2 : Int) := of_decide_eq_true (by first | (with_reducible assumption) | assumption)
          have q117 : x13_2 < (t105.length : Int) := of_decide_eq_true (by first | (with_reducible assumption) | assumption)
          obtain ⟨ad117, e117, hx117_0⟩ := Kd.at_int (Kd.R_reads' HO_9.out).2.2 x13_2 p117 q117
          cases e117
          replace p117 := eq_true p117
          replace q117 := eq_true q117
          go_wp2
          repeat (go_quiet (fail); try go_wp2)
          go_roundg k2
          case measure => have := HK1.out; have := HK2.out; omega
          case rel => exact ⟨(((rd t105 x13_2) == a1)), (wrap64 (x13_2 + 1)), (by first | rfl | (simp; done) | (simp [*]; done)), (by first | rfl | (simp; done) | (simp [*]; done)), H', ⟨by have := HK1.out; have := HK2.out; omega⟩, ⟨by (with_reducible repeat (first | apply Kd.R_alloc | apply Kd.R_drewN | apply Kd.R_drew)); exact HO_8.out⟩, ⟨by (with_reducible repeat (first | apply Kd.R_alloc | apply Kd.R_drewN | apply Kd.R_drew)); exact HO_9.out⟩, ⟨by repeat (first | (with_reducible first | exact HB.out | apply below_alloc | apply pw_below_drewN | apply below_drew1) | exact HB.out)⟩⟩
         ·rw [if_neg c44] at H
          exact absurd H (by simp)
       ·rw [if_neg c41] at H
        have c41b0 : decide (x13_2 < (t105.length : Int)) = false := decide_eq_false c41
        clear c41
        by_cases c46 : t101 = true
        ·subst c46
         have H1 : (if (x10_1 == x12_2) = true then (some (decide ((t102.length : Int) ≤ 2))) else (some false)) = some r := by rw [if_pos rfl] at H; exact H
         clear H
         have H := H1
         clear H1
         by_cases c47 : (x10_1 == x12_2) = true
         ·rw [if_pos c47] at H
          have c47b0 : (x10_1 == x12_2) = true := c47
          (try (have c47b1 : decide (x10_1 = x12_2) = true := by simpa using c47))
          (try (have c47b2 : (x10_1 == x12_2) = true := by simpa using c47))
          clear c47
          obtain rfl := Option.some.inj H
          obtain ⟨Ao48, co48, eo48⟩ := Kd.R_slice HO_9.out
          subst eo48
          go_wp2
          repeat (go_quiet (fail); try go_wp2)
          go_ret
          exact ⟨by first | rfl | (simp [errW_none, errW_some] <;> rfl) | (simp [*, errW_none, errW_some] <;> rfl), by repeat (first | (with_reducible first | exact HB.out | apply below_alloc | apply pw_below_drewN | apply below_drew1) | exact HB.out)⟩
         ·rw [if_neg c47] at H
          have c47b0 : (x10_1 == x12_2) = false := by simpa using c47
          (try (have c47b1 : decide (x10_1 = x12_2) = false := by simpa using c47))
          (try (have c47b2 : (x10_1 == x12_2) = false := by simpa using c47))
          (try (have c47b3 : ¬ (x10_1 = x12_2) := by simpa using c47))
          clear c47
          obtain rfl := Option.some.inj H
          obtain ⟨Ao49, co49, eo49⟩ := Kd.R_slice HO_9.out
          subst eo49
          go_wp2
          repeat (go_quiet (fail); try go_wp2)
          go_ret
          exact ⟨by first | rfl | (simp [errW_none, errW_some] <;> rfl) | (simp [*, errW_none, errW_some] <;> rfl), by repeat (first | (with_reducible first | exact HB.out | apply below_alloc | apply pw_below_drewN | apply below_drew1) | exact HB.out)⟩
        ·replace c46 := Bool.eq_false_iff.mpr c46
         subst c46
         have H1 : (some false) = some r := by rw [if_neg (show ¬ (false = true) by decide)] at H; exact H
         clear H
         have H := H1
         clear H1
         obtain rfl := Option.some.inj H
         obtain ⟨Ao50, co50, eo50⟩ := Kd.R_slice HO_9.out
         subst eo50
         go_wp2
         repeat (go_quiet (fail); try go_wp2)
         go_ret
         exact ⟨by first | rfl | (simp [errW_none, errW_some] <;> rfl) | (simp [*, errW_none, errW_some] <;> rfl), by repeat (first | (with_reducible first | exact HB.out | apply below_alloc | apply pw_below_drewN | apply below_drew1) | exact HB.out)⟩

end Go.Proofs.Ytnepgcbgkhikkaa.H
/- CfgBack: one leads to another one just if that is led to by it; numbers rise, each once, and are statements. Conditions: the statement's own. -/
namespace Go.Proofs.Ytnepgcbgkhikkaa.H
open Go.RowKit Go.Proofs.YtnepgcbgkhikkaaW.PrintWords
set_option linter.unusedVariables false
set_option linter.unusedSimpArgs false
theorem Back_l1 (a : Int) (x8 l : List Int) (ld : Bool) (h8 : x8.length ≤ 2) (hl : l.length ≤ 1000000) : ∀ (r : List Int) (n : Nat) (c : Bool), l.drop n = r → ld = (c || decide (a ∈ r)) →
    Ev (fun k => lambrequinlaw20_CfgBack.l1 k a true x8 l ld c n) true
  | [], n, c, h, e => by
    refine Ev.step (fun k => by rw [lambrequinlaw20_CfgBack.l1]) (Ev.neg (drop_end h) (Ev.pos rfl (Ev.pos (by rw [e]; simp) (Ev.some ?_))))
    rw [decide_eq_true_iff]; omega
  | y :: r, n, c, h, e => by
    obtain ⟨h1, h2, h3, h4, h5⟩ := drop_more h (by omega)
    refine Ev.step (fun k => by rw [lambrequinlaw20_CfgBack.l1]) (Ev.pos h1 ?_)
    rw [h5]
    cases c with
    | true => exact Ev.pos rfl (Back_l1 a x8 l ld h8 hl r (n + 1) true h4 (by rw [e]; simp))
    | false =>
      refine Ev.neg (by simp) (Ev.pos h2 ?_)
      rw [show rd l n = y from h3 _]
      refine Back_l1 a x8 l ld h8 hl r (n + 1) (y == a) h4 ?_
      rw [e]
      by_cases c : y = a
      · subst c; simp
      · have : ¬ a = y := fun h => c h.symm
        simp [c, this]
theorem Back_l0 (s : List Stmt) (a b : Int) (t l : List Int) (hs : s.length ≤ 60) (ht : t.length ≤ 2) (hin : ∀ m ∈ t, 0 ≤ m ∧ m < (s.length : Int)) (hp : t.Pairwise (· < ·)) (hl : l.length ≤ 1000000) (hab : b ∈ t ↔ a ∈ l) : ∀ (r : List Int) (n : Nat) (c : Bool), t.drop n = r → decide (b ∈ t) = (c || decide (b ∈ r)) →
    Ev (fun k => lambrequinlaw20_CfgBack.l0 k s a b true t l c n) true
  | [], n, c, h, e => by
    refine Ev.step (fun k => by rw [lambrequinlaw20_CfgBack.l0]) (Ev.neg (drop_end h) ?_)
    exact Back_l1 a t l c ht hl l 0 false rfl (by simp at e; rw [← e]; simp [hab])
  | y :: r, n, c, h, e => by
    obtain ⟨h1, h2, h3, h4, h5⟩ := drop_more h (by omega)
    have hy : t[n]? = some y := by
      have := congrArg (fun z => z[0]?) h
      simpa using this
    have hyin := hin y (List.mem_of_getElem? hy)
    have next : ∀ c' : Bool, (decide (b ∈ t) = (c' || decide (b ∈ r))) → Ev (fun k => if (y : Int) < 0 then some false else if y ≥ (s.length : Int) then some false else if (n : Int) > 0 then (if 0 ≤ wrap64 ((n : Int) - 1) then (if wrap64 ((n : Int) - 1) < (t.length : Int) then (if y ≤ rd t (wrap64 ((n : Int) - 1)) then some false else lambrequinlaw20_CfgBack.l0 k s a b true t l c' ((n + 1 : Nat) : Int)) else none) else none) else lambrequinlaw20_CfgBack.l0 k s a b true t l c' ((n + 1 : Nat) : Int)) true := by
      intro c' e'
      have ih := Back_l0 s a b t l hs ht hin hp hl hab r (n + 1) c' h4 e'
      refine Ev.neg (by omega) (Ev.neg (by omega) ?_)
      by_cases hn : 0 < n
      · have hw : wrap64 ((n : Int) - 1) = ((n - 1 : Nat) : Int) := by unfold wrap64; omega
        have hz : t[n - 1]? = some (t[n - 1]'(by omega)) := List.getElem?_eq_getElem (by omega)
        rw [hw]
        refine Ev.pos (by omega) (Ev.pos (by omega) (Ev.pos (by omega) (Ev.neg ?_ ih)))
        rw [show rd t ((n - 1 : Nat) : Int) = t[n - 1]'(by omega) from getD_at hz _]
        have := List.pairwise_iff_getElem.1 hp (n - 1) n (by omega) (by omega) (by omega)
        rw [List.getElem?_eq_getElem (by omega)] at hy
        have hy' := Option.some.inj hy
        omega
      · exact Ev.neg (by omega) ih
    refine Ev.step (fun k => by rw [lambrequinlaw20_CfgBack.l0]) (Ev.pos h1 ?_)
    rw [show rd t n = y from h3 _, h5]
    cases c with
    | true => exact Ev.pos rfl (Ev.pos h2 (next true (by rw [e]; simp)))
    | false =>
      refine Ev.neg (by simp) (Ev.pos h2 (next (y == b) ?_))
      rw [e]
      by_cases c : y = b
      · subst c; simp
      · have : ¬ b = y := fun h => c h.symm
        simp [c, this]
theorem CfgBack_pure (x0 : List Stmt) (y0 : x0.length * 96 ≤ 140737488351232) (a1 : Int) (w1 : (Lit.int .i64 a1).wf = true) (a2 : Int) (w2 : (Lit.int .i64 a2).wf = true) :
    ∃ k, lambrequinlaw20_CfgBack.f k x0 a1 a2 = some true := by
  refine Ev.rounds (g := fun k => lambrequinlaw20_CfgBack.f k x0 a1 a2) ?_
  unfold lambrequinlaw20_CfgBack.f
  refine Ev.bind shown20_ev ?_
  by_cases c : (x0.length : Int) > 60
  · exact Ev.pos c (Ev.now _)
  · refine Ev.neg c (Ev.pure (Next_eq x0 a1) (Ev.bind (Prev_ev x0 a2 (by omega)) ?_))
    exact Back_l0 x0 a1 a2 _ _ (by omega) (nxt_len _ _) (fun m hm => ⟨(nxt_within hm).1, (nxt_within hm).2.1⟩) (nxt_inc _ _) (by have := prv_len x0 a2; omega) mem_prv.symm _ 0 false rfl (by simp)
theorem CfgBack_walk (w : World) (x0 : (List Stmt)) (A0 : Option Addr) (c0 : Nat) (l0 : x0.length ≤ c0) (g0 : Kd.C k30 w A0 x0.length x0) (y0 : x0.length * 96 ≤ 140737488351232) (a1 : Int) (w1 : (Lit.int .i64 a1).wf = true) (a2 : Int) (w2 : (Lit.int .i64 a2).wf = true) :
    Calls Try.prog 5 #[.slice A0 x0.length c0, .int .i64 a1, .int .i64 a2] w fun e w' => e = .returned (.bool true) ∧ Below w.heap.size w w' := by
  obtain ⟨k, h⟩ := CfgBack_pure x0 y0 a1 w1 a2 w2
  exact (lambrequinlaw20_CfgBack.calls k A0 c0 x0 a1 a2 true w g0 l0 h).mono (fun e w' h' => ⟨h'.1, h'.2⟩)
end Go.Proofs.Ytnepgcbgkhikkaa.H
namespace Go.Proofs.Ytnepgcbgkhikkaa.cfgBack
open Go.ChangeShapes Go.WideShapes Go.ChangeAt Go.RowKit Go.Proofs.Ytnepgcbgkhikkaa.H Go.Proofs.YtnepgcbgkhikkaaW.PrintWords
open Go.ChangeMaps (open_string shut_string)
set_option linter.unusedVariables false
theorem own : ownKnob Try.prog.godebug = none := by kernel_rfl
theorem laidOut : laidOutB Try.prog = true := by kernel_rfl
set_option maxRecDepth 100000 in
theorem lifted (os : Os) (started : os.Started) (H : Type) (enc : TypeId × Value → H) :
    ReturnsInHanded {} Try.checked os 5 .any (Rows.cfgBackSpec.pre6 enc Try.prog Try.f5 Rows.cfgBackRow.domain false) (Rows.cfgBackSpec.post enc Try.prog Try.f5 false true false false) := by
  refine returnsInHanded_of_change_sized (C := Try.checked) own started (by kernel_rfl) Try.func5
    (ChangeSpec.witness6 (enc := enc) (C := Try.checked) false ⟨#[], #[.slice none 0 0, .int .i64 0, .int .i64 0], []⟩ 8 (by kernel_rfl) (by kernel_rfl) (by kernel_rfl) (by kernel_rfl)) ?_
  intro W base args ds gs before hval0 hW hcnd hsz0 _
  have hsz : (DataW.weightsEach Try.prog (Try.f5.params.toList ++ Rows.cfgBackSpec.plain.varTypes Try.prog) (ds ++ gs)).all (· ≤ reachBytes) = true := hsz0
  have hval : ∀ (j : Nat) t v, Try.f5.params[j]? = some t → args[j]? = some v → Value.okWide Try.prog W .any base t v := hval0
  have hW' := hW
  obtain ⟨p, q, hA0, hV, rfl, hfz, hnd⟩ := hW
  have hA : DataW.TrodAll enc Try.prog W 0 (fun _ => true) true Try.f5.params.toList args.toList ds p := hA0
  rw [Try.params5] at hA hval hsz
  obtain ⟨v0, vs0, d0, ds0, p0, q0, hargs, rfl, rfl, h0, r0⟩ := trodAll_cons hA
  obtain ⟨v1, vs1, d1, ds1, p1, q1, rfl, rfl, rfl, h1, r1⟩ := trodAll_cons r0
  obtain ⟨v2, vs2, d2, ds2, p2, q2, rfl, rfl, rfl, h2, r2⟩ := trodAll_cons r1
  obtain ⟨rfl, rfl, rfl⟩ := trodAll_nil r2
  obtain rfl : args = #[v0, v1, v2] := by cases args; simp_all
  obtain ⟨rfl, rfl⟩ := trodVars_none hV
  have k0 := h0
  have lt0 : ∀ x ∈ p0, x.block < W.heap.size := by obtain ⟨m, hm⟩ := k0; exact DataW.trod_lt m _ _ _ hm
  obtain ⟨a0, len0, cap0, rfl⟩ := okWide_slice Try.underlying22 (hval 0 22 v0 rfl rfl)
  have y0 := sized_row hsz (j := 0) (t := 22) rfl rfl Try.underlying22 (B := 96) (by kernel_rfl) h0
  obtain ⟨x0, A0, c0, e0, l0, g0⟩ := (opens_slice Try.underlying22 (by kernel_rfl) opens_Stmt 30).arg k0
  simp only [Value.cells, List.cons.injEq, and_true, Value.slice.injEq] at e0
  obtain ⟨rfl, rfl, rfl⟩ := e0
  obtain ⟨a1, rfl, rfl, rfl, w1⟩ := open_int Try.underlying3 (hval 1 3 v1 rfl rfl) h1
  obtain ⟨a2, rfl, rfl, rfl, w2⟩ := open_int Try.underlying3 (hval 2 3 v2 rfl rfl) h2
  clear hA0 hval0 hsz0 hsz
  refine (CfgBack_walk W x0 a0 cap0 l0 g0 y0 a1 w1 a2 w2).mono fun e W' ⟨he, bel⟩ => ?_
  subst he
  exact ⟨_, rfl, _, _, _, [], _, [], hW', trodAll_mk1 (shut_bool Try.underlying4 _), (trodAll_cons_mk (Below.trod laidOut (by kernel_rfl) (of_decide_eq_true (by kernel_rfl)) k0 bel lt0) (trodAll_cons_mk (shut_int Try.underlying3 w1) (trodAll_cons_mk (shut_int Try.underlying3 w2) trodAll_mk0))), rfl, bel.frame _, fun h => by cases h⟩
theorem over : Rows.cfgBackRow.holds Try.pinned (OpenSpec.ofChange Rows.cfgBackSpec) :=
  OpenClaim.holds_of_wide 5 Try.f5 rfl rfl rfl rfl rfl rfl rfl ⟨rfl, rfl, rfl, rfl, rfl⟩ rfl rfl rfl rfl rfl (by kernel_rfl) Try.func5 (by kernel_rfl)
    (of_decide_eq_true (by kernel_rfl)) (by unfold Func.isWrapper; first | (rw [if_pos (by decide +kernel)]; kernel_rfl) | (rw [if_neg (by decide +kernel)]; exact ⟨rfl, rfl⟩))
    (fun os started H enc _ => lifted os started H enc)
theorem proved : Rows.CfgBackSaid := over
end Go.Proofs.Ytnepgcbgkhikkaa.cfgBack
namespace Go.Proofs.Ytnepgcbgkhikkaa
theorem cfgBack_holds : Rows.CfgBackSaid := cfgBack.proved
#print axioms cfgBack_holds
end Go.Proofs.Ytnepgcbgkhikkaa

/- RowCfgFlows of the seat's law CfgFlows: the law holds, under the statement's own conditions. -/
import Derived.Test.YtnepgcbgkhikkaaNXCfgFlows
import Derived.Test.YtnepgcbgkhikkaaNXCfgFlows1
import Derived.Test.YtnepgcbgkhikkaaNXCfgFlows3
import Derived.Test.YtnepgcbgkhikkaaNXCfgFlows2
import Derived.Test.YtnepgcbgkhikkaaNXCfgFlows4
import Derived.OpenShut
import Derived.SizedLaws
import Derived.DataReads
import Derived.Test.YtnepgcbgkhikkaaRows
import Derived.Test.YtnepgcbgkhikkaaNW
import Derived.WalkKit
import Derived.ProofKit
import Derived.ShutString
import Derived.ChangeOld
import Derived.Below
import Derived.Carry
set_option linter.unusedVariables false
set_option linter.unusedSimpArgs false
set_option linter.unusedSectionVars false
namespace Go.Proofs.Ytnepgcbgkhikkaa.H
open Go.RowKit Go.Proofs.YtnepgcbgkhikkaaW.PrintWords Go.Proofs.YtnepgcbgkhikkaaW.PrintLast Go.Proofs.YtnepgcbgkhikkaaW.PrintMore
attribute [local go_sem] max2_int min2_int max_two min_two max_three min_three max_four min_four
def lambrequinlaw20_CfgFlows.f (k : Nat) (l0 : List (Stmt)) (a1 : Int) (a2 : ByteArray) (a3 : Int) : Option (Bool) := (lambrequinlaw20_shown.f k).bind fun t101 => (if (l0.length : Int) > 25 then (some t101) else (if t101 = true then ((cfg_Reaches.f k l0 a1 a2 a3).bind fun t102 => ((lambrequinref20_Reaches.f k l0 a1 a2 a3).bind fun t103 => (if (t102 == t103) = true then ((cfg_Lives.f k l0 a1 a2).bind fun t104 => ((lambrequinref20_Lives.f k l0 a1 a2).bind fun t105 => (if (t104 == t105) = true then ((cfg_Taints.f k l0 a1 a2).bind fun t106 => ((lambrequinref20_Taints.f k l0 a1 a2).bind fun t107 => (some (t106 == t107)))) else (some false)))) else (some false)))) else (some false)))
theorem lambrequinlaw20_CfgFlows.mono : ∀ a0 a1 a2 a3 k, LeO (lambrequinlaw20_CfgFlows.f k a0 a1 a2 a3) (lambrequinlaw20_CfgFlows.f (k + 1) a0 a1 a2 a3) := by
 intro a0 a1 a2 a3 k
 unfold lambrequinlaw20_CfgFlows.f
 repeat' first
   | (with_reducible exact cfg_Lives.mono _ _ _ _)
   | (with_reducible exact cfg_Reaches.mono _ _ _ _ _)
   | (with_reducible exact cfg_Taints.mono _ _ _ _)
   | (with_reducible exact lambrequinlaw20_shown.mono _)
   | (with_reducible exact lambrequinref20_Lives.mono _ _ _ _)
   | (with_reducible exact lambrequinref20_Reaches.mono _ _ _ _ _)
   | (with_reducible exact lambrequinref20_Taints.mono _ _ _ _)
   | (with_reducible exact LeO.refl _)
   | (with_reducible exact LeO.none _)
   | (with_reducible refine LeO.ite ?_ ?_)
   | (with_reducible refine LeO.bind ?_ (fun _ => ?_))
   | exact cfg_Lives.mono _ _ _ _
   | exact cfg_Reaches.mono _ _ _ _ _
   | exact cfg_Taints.mono _ _ _ _
   | exact lambrequinlaw20_shown.mono _
   | exact lambrequinref20_Lives.mono _ _ _ _
   | exact lambrequinref20_Reaches.mono _ _ _ _ _
   | exact lambrequinref20_Taints.mono _ _ _ _
   | exact LeO.none _
   | refine LeO.ite ?_ ?_
   | refine LeO.bind ?_ (fun _ => ?_)
set_option maxHeartbeats 8000000 in
set_option maxRecDepth 100000 in
theorem lambrequinlaw20_CfgFlows.calls (k : Nat) (A0 : Option Addr) (c0 : Nat) (l0 : List (Stmt)) (a1 : Int) (a2 : ByteArray) (a3 : Int) (r : Bool) (w : World) (hr0 : Kd.C k30 w A0 l0.length l0) (hc0 : l0.length ≤ c0) (h : lambrequinlaw20_CfgFlows.f k l0 a1 a2 a3 = some r) :
  Calls Try.prog 11 #[.slice A0 l0.length c0, .int .i64 a1, .string a2, .int .i64 a3] w fun e w' => e = .returned (.bool r) ∧ Below w.heap.size w w' := by
 have HR0 := Aside0.mk hr0
 have HC0 := Aside0.mk hc0
 clear hr0 hc0
 have HB := Aside0.mk (Below.refl w.heap.size w)
 have H : ((lambrequinlaw20_shown.f k).bind fun t101 => (if (l0.length : Int) > 25 then (some t101) else (if t101 = true then ((cfg_Reaches.f k l0 a1 a2 a3).bind fun t102 => ((lambrequinref20_Reaches.f k l0 a1 a2 a3).bind fun t103 => (if (t102 == t103) = true then ((cfg_Lives.f k l0 a1 a2).bind fun t104 => ((lambrequinref20_Lives.f k l0 a1 a2).bind fun t105 => (if (t104 == t105) = true then ((cfg_Taints.f k l0 a1 a2).bind fun t106 => ((lambrequinref20_Taints.f k l0 a1 a2).bind fun t107 => (some (t106 == t107)))) else (some false)))) else (some false)))) else (some false)))) = some r := h
 clear h
 replace H := Option.bind_eq_some_iff.mp H
 obtain ⟨t101, A50, H⟩ := H
 replace H : (if (l0.length : Int) > 25 then (some t101) else (if t101 = true then ((cfg_Reaches.f k l0 a1 a2 a3).bind fun t102 => ((lambrequinref20_Reaches.f k l0 a1 a2 a3).bind fun t103 => (if (t102 == t103) = true then ((cfg_Lives.f k l0 a1 a2).bind fun t104 => ((lambrequinref20_Lives.f k l0 a1 a2).bind fun t105 => (if (t104 == t105) = true then ((cfg_Taints.f k l0 a1 a2).bind fun t106 => ((lambrequinref20_Taints.f k l0 a1 a2).bind fun t107 => (some (t106 == t107)))) else (some false)))) else (some false)))) else (some false))) = some r := H
 have A5 := Aside0.mk A50
 clear A50
 by_cases c6 : (l0.length : Int) > 25
 ·rw [if_pos c6] at H
  have c6b0 : decide (25 < (l0.length : Int)) = true := decide_eq_true c6
  have c6b1 : decide (25 < l0.length) = true := decide_eq_true (by omega)
  clear c6
  obtain rfl := Option.some.inj H
  go_enter Try.func11, Try.ntmps11
  go_wp2_with (first | ((with_reducible refine gate_callee (f := 17) rfl ?_); refine goesL_ (some 10) rfl rfl Try.func17 (by kernel_rfl) rfl #[] rfl (by (try simp only [List.map_toArray, List.map_cons, List.map_nil]); first | done | rfl | (simp only [List.length_drop, List.length_take]; rfl)) ?_; (with_reducible refine (lambrequinlaw20_shown.calls k  t101 _ A5.out).mono ?_); rintro e w7 ⟨rfl, hb⟩; refine ⟨_, rfl, ?_⟩; have n0_ := Aside0.mk (below_step (by repeat (first | (with_reducible first | exact HB.out | apply below_alloc | apply pw_below_drewN | apply below_drew1) | exact HB.out)) hb); clear HB; have HB := n0_; clear n0_; (try clear hb); (try clear hb2); (try clear hk); (try clear hi)))
  go_ret
  exact ⟨by first | rfl | (simp [errW_none, errW_some] <;> rfl) | (simp [*, errW_none, errW_some] <;> rfl), by repeat (first | (with_reducible first | exact HB.out | apply below_alloc | apply pw_below_drewN | apply below_drew1) | exact HB.out)⟩
 ·rw [if_neg c6] at H
  have c6b0 : decide (25 < (l0.length : Int)) = false := decide_eq_false c6
  have c6b1 : decide (25 < l0.length) = false := decide_eq_false (by omega)
  clear c6
  by_cases c8 : t101 = true
  ·subst c8
   have H1 : ((cfg_Reaches.f k l0 a1 a2 a3).bind fun t102 => ((lambrequinref20_Reaches.f k l0 a1 a2 a3).bind fun t103 => (if (t102 == t103) = true then ((cfg_Lives.f k l0 a1 a2).bind fun t104 => ((lambrequinref20_Lives.f k l0 a1 a2).bind fun t105 => (if (t104 == t105) = true then ((cfg_Taints.f k l0 a1 a2).bind fun t106 => ((lambrequinref20_Taints.f k l0 a1 a2).bind fun t107 => (some (t106 == t107)))) else (some false)))) else (some false)))) = some r := by rw [if_pos rfl] at H; exact H
   clear H
   have H := H1
   clear H1
   replace H := Option.bind_eq_some_iff.mp H
   obtain ⟨t102, A90, H⟩ := H
   replace H : ((lambrequinref20_Reaches.f k l0 a1 a2 a3).bind fun t103 => (if (t102 == t103) = true then ((cfg_Lives.f k l0 a1 a2).bind fun t104 => ((lambrequinref20_Lives.f k l0 a1 a2).bind fun t105 => (if (t104 == t105) = true then ((cfg_Taints.f k l0 a1 a2).bind fun t106 => ((lambrequinref20_Taints.f k l0 a1 a2).bind fun t107 => (some (t106 == t107)))) else (some false)))) else (some false))) = some r := H
   have A9 := Aside0.mk A90
   clear A90
   replace H := Option.bind_eq_some_iff.mp H
   obtain ⟨t103, A100, H⟩ := H
   replace H : (if (t102 == t103) = true then ((cfg_Lives.f k l0 a1 a2).bind fun t104 => ((lambrequinref20_Lives.f k l0 a1 a2).bind fun t105 => (if (t104 == t105) = true then ((cfg_Taints.f k l0 a1 a2).bind fun t106 => ((lambrequinref20_Taints.f k l0 a1 a2).bind fun t107 => (some (t106 == t107)))) else (some false)))) else (some false)) = some r := H
   have A10 := Aside0.mk A100
   clear A100
   by_cases c11 : (t102 == t103) = true
   ·rw [if_pos c11] at H
    have c11b0 : (t102 == t103) = true := c11
    (try (have c11b1 : decide (t102 = t103) = true := by simpa using c11))
    (try (have c11b2 : (t102 == t103) = true := by simpa using c11))
    clear c11
    replace H := Option.bind_eq_some_iff.mp H
    obtain ⟨t104, A120, H⟩ := H
    replace H : ((lambrequinref20_Lives.f k l0 a1 a2).bind fun t105 => (if (t104 == t105) = true then ((cfg_Taints.f k l0 a1 a2).bind fun t106 => ((lambrequinref20_Taints.f k l0 a1 a2).bind fun t107 => (some (t106 == t107)))) else (some false))) = some r := H
    have A12 := Aside0.mk A120
    clear A120
    replace H := Option.bind_eq_some_iff.mp H
    obtain ⟨t105, A130, H⟩ := H
    replace H : (if (t104 == t105) = true then ((cfg_Taints.f k l0 a1 a2).bind fun t106 => ((lambrequinref20_Taints.f k l0 a1 a2).bind fun t107 => (some (t106 == t107)))) else (some false)) = some r := H
    have A13 := Aside0.mk A130
    clear A130
    by_cases c14 : (t104 == t105) = true
    ·rw [if_pos c14] at H
     have c14b0 : (t104 == t105) = true := c14
     (try (have c14b1 : decide (t104 = t105) = true := by simpa using c14))
     (try (have c14b2 : (t104 == t105) = true := by simpa using c14))
     clear c14
     replace H := Option.bind_eq_some_iff.mp H
     obtain ⟨t106, A150, H⟩ := H
     replace H : ((lambrequinref20_Taints.f k l0 a1 a2).bind fun t107 => (some (t106 == t107))) = some r := H
     have A15 := Aside0.mk A150
     clear A150
     replace H := Option.bind_eq_some_iff.mp H
     obtain ⟨t107, A160, H⟩ := H
     replace H : (some (t106 == t107)) = some r := H
     have A16 := Aside0.mk A160
     clear A160
     obtain rfl := Option.some.inj H
     go_enter Try.func11, Try.ntmps11
     go_wp2_with (first | ((with_reducible refine gate_callee (f := 17) rfl ?_); refine goesL_ (some 10) rfl rfl Try.func17 (by kernel_rfl) rfl #[] rfl (by (try simp only [List.map_toArray, List.map_cons, List.map_nil]); first | done | rfl | (simp only [List.length_drop, List.length_take]; rfl)) ?_; (with_reducible refine (lambrequinlaw20_shown.calls k  true _ A5.out).mono ?_); rintro e w17 ⟨rfl, hb⟩; refine ⟨_, rfl, ?_⟩; have n0_ := Aside0.mk (below_step (by repeat (first | (with_reducible first | exact HB.out | apply below_alloc | apply pw_below_drewN | apply below_drew1) | exact HB.out)) hb); clear HB; have HB := n0_; clear n0_; (try clear hb); (try clear hb2); (try clear hk); (try clear hi)) | (go_at_call 23; (with_reducible refine (cfg_Reaches.calls k _ _ l0 a1 a2 a3 t102 _ ?side1 ?side2 A9.out).mono ?_); (case side1 => repeat (first | exact (Kd.C_below HR0.out HB.out) | (with_reducible refine Kd.C_alloc ?_ _) | (with_reducible refine Kd.C_drewN ?_ _) | (with_reducible refine Kd.C_drew ?_))); (case side2 => exact HC0.out); rintro e w18 ⟨rfl, hb⟩; have n0_ := Aside0.mk (below_step (by repeat (first | (with_reducible first | exact HB.out | apply below_alloc | apply pw_below_drewN | apply below_drew1) | exact HB.out)) hb); clear HB; have HB := n0_; clear n0_; (try clear hb); (try clear hb2); (try clear hk); (try clear hi)) | (go_at_call 38; (with_reducible refine (lambrequinref20_Reaches.calls k _ _ l0 a1 a2 a3 t103 _ ?side1 ?side2 A10.out).mono ?_); (case side1 => repeat (first | exact (Kd.C_below HR0.out HB.out) | (with_reducible refine Kd.C_alloc ?_ _) | (with_reducible refine Kd.C_drewN ?_ _) | (with_reducible refine Kd.C_drew ?_))); (case side2 => exact HC0.out); rintro e w19 ⟨rfl, hb⟩; have n0_ := Aside0.mk (below_step (by repeat (first | (with_reducible first | exact HB.out | apply below_alloc | apply pw_below_drewN | apply below_drew1) | exact HB.out)) hb); clear HB; have HB := n0_; clear n0_; (try clear hb); (try clear hb2); (try clear hk); (try clear hi)) | (go_at_call 18; (with_reducible refine (cfg_Lives.calls k _ _ l0 a1 a2 t104 _ ?side1 ?side2 A12.out).mono ?_); (case side1 => repeat (first | exact (Kd.C_below HR0.out HB.out) | (with_reducible refine Kd.C_alloc ?_ _) | (with_reducible refine Kd.C_drewN ?_ _) | (with_reducible refine Kd.C_drew ?_))); (case side2 => exact HC0.out); rintro e w20 ⟨rfl, hb⟩; have n0_ := Aside0.mk (below_step (by repeat (first | (with_reducible first | exact HB.out | apply below_alloc | apply pw_below_drewN | apply below_drew1) | exact HB.out)) hb); clear HB; have HB := n0_; clear n0_; (try clear hb); (try clear hb2); (try clear hk); (try clear hi)) | (go_at_call 39; (with_reducible refine (lambrequinref20_Lives.calls k _ _ l0 a1 a2 t105 _ ?side1 ?side2 A13.out).mono ?_); (case side1 => repeat (first | exact (Kd.C_below HR0.out HB.out) | (with_reducible refine Kd.C_alloc ?_ _) | (with_reducible refine Kd.C_drewN ?_ _) | (with_reducible refine Kd.C_drew ?_))); (case side2 => exact HC0.out); rintro e w21 ⟨rfl, hb⟩; have n0_ := Aside0.mk (below_step (by repeat (first | (with_reducible first | exact HB.out | apply below_alloc | apply pw_below_drewN | apply below_drew1) | exact HB.out)) hb); clear HB; have HB := n0_; clear n0_; (try clear hb); (try clear hb2); (try clear hk); (try clear hi)) | (go_at_call 40; (with_reducible refine (cfg_Taints.calls k _ _ l0 a1 a2 t106 _ ?side1 ?side2 A15.out).mono ?_); (case side1 => repeat (first | exact (Kd.C_below HR0.out HB.out) | (with_reducible refine Kd.C_alloc ?_ _) | (with_reducible refine Kd.C_drewN ?_ _) | (with_reducible refine Kd.C_drew ?_))); (case side2 => exact HC0.out); rintro e w22 ⟨rfl, hb⟩; have n0_ := Aside0.mk (below_step (by repeat (first | (with_reducible first | exact HB.out | apply below_alloc | apply pw_below_drewN | apply below_drew1) | exact HB.out)) hb); clear HB; have HB := n0_; clear n0_; (try clear hb); (try clear hb2); (try clear hk); (try clear hi)) | (go_at_call 41; (with_reducible refine (lambrequinref20_Taints.calls k _ _ l0 a1 a2 t107 _ ?side1 ?side2 A16.out).mono ?_); (case side1 => repeat (first | exact (Kd.C_below HR0.out HB.out) | (with_reducible refine Kd.C_alloc ?_ _) | (with_reducible refine Kd.C_drewN ?_ _) | (with_reducible refine Kd.C_drew ?_))); (case side2 => exact HC0.out); rintro e w23 ⟨rfl, hb⟩; have n0_ := Aside0.mk (below_step (by repeat (first | (with_reducible first | exact HB.out | apply below_alloc | apply pw_below_drewN | apply below_drew1) | exact HB.out)) hb); clear HB; have HB := n0_; clear n0_; (try clear hb); (try clear hb2); (try clear hk); (try clear hi)))
     go_ret
     exact ⟨by first | rfl | (simp [errW_none, errW_some] <;> rfl) | (simp [*, errW_none, errW_some] <;> rfl), by repeat (first | (with_reducible first | exact HB.out | apply below_alloc | apply pw_below_drewN | apply below_drew1) | exact HB.out)⟩
    ·rw [if_neg c14] at H
     have c14b0 : (t104 == t105) = false := by simpa using c14
     (try (have c14b1 : decide (t104 = t105) = false := by simpa using c14))
     (try (have c14b2 : (t104 == t105) = false := by simpa using c14))
     (try (have c14b3 : ¬ (t104 = t105) := by simpa using c14))
     clear c14
     obtain rfl := Option.some.inj H
     go_enter Try.func11, Try.ntmps11
     go_wp2_with (first | ((with_reducible refine gate_callee (f := 17) rfl ?_); refine goesL_ (some 10) rfl rfl Try.func17 (by kernel_rfl) rfl #[] rfl (by (try simp only [List.map_toArray, List.map_cons, List.map_nil]); first | done | rfl | (simp only [List.length_drop, List.length_take]; rfl)) ?_; (with_reducible refine (lambrequinlaw20_shown.calls k  true _ A5.out).mono ?_); rintro e w24 ⟨rfl, hb⟩; refine ⟨_, rfl, ?_⟩; have n0_ := Aside0.mk (below_step (by repeat (first | (with_reducible first | exact HB.out | apply below_alloc | apply pw_below_drewN | apply below_drew1) | exact HB.out)) hb); clear HB; have HB := n0_; clear n0_; (try clear hb); (try clear hb2); (try clear hk); (try clear hi)) | (go_at_call 23; (with_reducible refine (cfg_Reaches.calls k _ _ l0 a1 a2 a3 t102 _ ?side1 ?side2 A9.out).mono ?_); (case side1 => repeat (first | exact (Kd.C_below HR0.out HB.out) | (with_reducible refine Kd.C_alloc ?_ _) | (with_reducible refine Kd.C_drewN ?_ _) | (with_reducible refine Kd.C_drew ?_))); (case side2 => exact HC0.out); rintro e w25 ⟨rfl, hb⟩; have n0_ := Aside0.mk (below_step (by repeat (first | (with_reducible first | exact HB.out | apply below_alloc | apply pw_below_drewN | apply below_drew1) | exact HB.out)) hb); clear HB; have HB := n0_; clear n0_; (try clear hb); (try clear hb2); (try clear hk); (try clear hi)) | (go_at_call 38; (with_reducible refine (lambrequinref20_Reaches.calls k _ _ l0 a1 a2 a3 t103 _ ?side1 ?side2 A10.out).mono ?_); (case side1 => repeat (first | exact (Kd.C_below HR0.out HB.out) | (with_reducible refine Kd.C_alloc ?_ _) | (with_reducible refine Kd.C_drewN ?_ _) | (with_reducible refine Kd.C_drew ?_))); (case side2 => exact HC0.out); rintro e w26 ⟨rfl, hb⟩; have n0_ := Aside0.mk (below_step (by repeat (first | (with_reducible first | exact HB.out | apply below_alloc | apply pw_below_drewN | apply below_drew1) | exact HB.out)) hb); clear HB; have HB := n0_; clear n0_; (try clear hb); (try clear hb2); (try clear hk); (try clear hi)) | (go_at_call 18; (with_reducible refine (cfg_Lives.calls k _ _ l0 a1 a2 t104 _ ?side1 ?side2 A12.out).mono ?_); (case side1 => repeat (first | exact (Kd.C_below HR0.out HB.out) | (with_reducible refine Kd.C_alloc ?_ _) | (with_reducible refine Kd.C_drewN ?_ _) | (with_reducible refine Kd.C_drew ?_))); (case side2 => exact HC0.out); rintro e w27 ⟨rfl, hb⟩; have n0_ := Aside0.mk (below_step (by repeat (first | (with_reducible first | exact HB.out | apply below_alloc | apply pw_below_drewN | apply below_drew1) | exact HB.out)) hb); clear HB; have HB := n0_; clear n0_; (try clear hb); (try clear hb2); (try clear hk); (try clear hi)) | (go_at_call 39; (with_reducible refine (lambrequinref20_Lives.calls k _ _ l0 a1 a2 t105 _ ?side1 ?side2 A13.out).mono ?_); (case side1 => repeat (first | exact (Kd.C_below HR0.out HB.out) | (with_reducible refine Kd.C_alloc ?_ _) | (with_reducible refine Kd.C_drewN ?_ _) | (with_reducible refine Kd.C_drew ?_))); (case side2 => exact HC0.out); rintro e w28 ⟨rfl, hb⟩; have n0_ := Aside0.mk (below_step (by repeat (first | (with_reducible first | exact HB.out | apply below_alloc | apply pw_below_drewN | apply below_drew1) | exact HB.out)) hb); clear HB; have HB := n0_; clear n0_; (try clear hb); (try clear hb2); (try clear hk); (try clear hi)))
     go_ret
     exact ⟨by first | rfl | (simp [errW_none, errW_some] <;> rfl) | (simp [*, errW_none, errW_some] <;> rfl), by repeat (first | (with_reducible first | exact HB.out | apply below_alloc | apply pw_below_drewN | apply below_drew1) | exact HB.out)⟩
   ·rw [if_neg c11] at H
    have c11b0 : (t102 == t103) = false := by simpa using c11
    (try (have c11b1 : decide (t102 = t103) = false := by simpa using c11))
    (try (have c11b2 : (t102 == t103) = false := by simpa using c11))
    (try (have c11b3 : ¬ (t102 = t103) := by simpa using c11))
    clear c11
    obtain rfl := Option.some.inj H
    go_enter Try.func11, Try.ntmps11
    go_wp2_with (first | ((with_reducible refine gate_callee (f := 17) rfl ?_); refine goesL_ (some 10) rfl rfl Try.func17 (by kernel_rfl) rfl #[] rfl (by (try simp only [List.map_toArray, List.map_cons, List.map_nil]); first | done | rfl | (simp only [List.length_drop, List.length_take]; rfl)) ?_; (with_reducible refine (lambrequinlaw20_shown.calls k  true _ A5.out).mono ?_); rintro e w29 ⟨rfl, hb⟩; refine ⟨_, rfl, ?_⟩; have n0_ := Aside0.mk (below_step (by repeat (first | (with_reducible first | exact HB.out | apply below_alloc | apply pw_below_drewN | apply below_drew1) | exact HB.out)) hb); clear HB; have HB := n0_; clear n0_; (try clear hb); (try clear hb2); (try clear hk); (try clear hi)) | (go_at_call 23; (with_reducible refine (cfg_Reaches.calls k _ _ l0 a1 a2 a3 t102 _ ?side1 ?side2 A9.out).mono ?_); (case side1 => repeat (first | exact (Kd.C_below HR0.out HB.out) | (with_reducible refine Kd.C_alloc ?_ _) | (with_reducible refine Kd.C_drewN ?_ _) | (with_reducible refine Kd.C_drew ?_))); (case side2 => exact HC0.out); rintro e w30 ⟨rfl, hb⟩; have n0_ := Aside0.mk (below_step (by repeat (first | (with_reducible first | exact HB.out | apply below_alloc | apply pw_below_drewN | apply below_drew1) | exact HB.out)) hb); clear HB; have HB := n0_; clear n0_; (try clear hb); (try clear hb2); (try clear hk); (try clear hi)) | (go_at_call 38; (with_reducible refine (lambrequinref20_Reaches.calls k _ _ l0 a1 a2 a3 t103 _ ?side1 ?side2 A10.out).mono ?_); (case side1 => repeat (first | exact (Kd.C_below HR0.out HB.out) | (with_reducible refine Kd.C_alloc ?_ _) | (with_reducible refine Kd.C_drewN ?_ _) | (with_reducible refine Kd.C_drew ?_))); (case side2 => exact HC0.out); rintro e w31 ⟨rfl, hb⟩; have n0_ := Aside0.mk (below_step (by repeat (first | (with_reducible first | exact HB.out | apply below_alloc | apply pw_below_drewN | apply below_drew1) | exact HB.out)) hb); clear HB; have HB := n0_; clear n0_; (try clear hb); (try clear hb2); (try clear hk); (try clear hi)))
    go_ret
    exact ⟨by first | rfl | (simp [errW_none, errW_some] <;> rfl) | (simp [*, errW_none, errW_some] <;> rfl), by repeat (first | (with_reducible first | exact HB.out | apply below_alloc | apply pw_below_drewN | apply below_drew1) | exact HB.out)⟩
  ·replace c8 := Bool.eq_false_iff.mpr c8
   subst c8
   have H1 : (some false) = some r := by rw [if_neg (show ¬ (false = true) by decide)] at H; exact H
   clear H
   have H := H1
   clear H1
   obtain rfl := Option.some.inj H
   go_enter Try.func11, Try.ntmps11
   go_wp2_with (first | ((with_reducible refine gate_callee (f := 17) rfl ?_); refine goesL_ (some 10) rfl rfl Try.func17 (by kernel_rfl) rfl #[] rfl (by (try simp only [List.map_toArray, List.map_cons, List.map_nil]); first | done | rfl | (simp only [List.length_drop, List.length_take]; rfl)) ?_; (with_reducible refine (lambrequinlaw20_shown.calls k  false _ A5.out).mono ?_); rintro e w32 ⟨rfl, hb⟩; refine ⟨_, rfl, ?_⟩; have n0_ := Aside0.mk (below_step (by repeat (first | (with_reducible first | exact HB.out | apply below_alloc | apply pw_below_drewN | apply below_drew1) | exact HB.out)) hb); clear HB; have HB := n0_; clear n0_; (try clear hb); (try clear hb2); (try clear hk); (try clear hi)))
   go_ret
   exact ⟨by first | rfl | (simp [errW_none, errW_some] <;> rfl) | (simp [*, errW_none, errW_some] <;> rfl), by repeat (first | (with_reducible first | exact HB.out | apply below_alloc | apply pw_below_drewN | apply below_drew1) | exact HB.out)⟩
end Go.Proofs.Ytnepgcbgkhikkaa.H
/- CfgFlows: whether a definition reaches a statement, a name lives ahead of it, and is tainted there, is as the document says. Conditions: the statement's own. -/
namespace Go.Proofs.Ytnepgcbgkhikkaa.H
open Go.RowKit Go.Proofs.YtnepgcbgkhikkaaW.PrintWords
theorem same_ev {P : Prop} {b c : Bool} (hb : b = true ↔ P) (hc : c = true ↔ P) : (b == c) = true := by
  have : b = c := by rw [Bool.eq_iff_iff, hb, hc]
  simp [this]
theorem CfgFlows_pure (x0 : List Stmt) (y0 : x0.length * 96 ≤ 140737488351232) (a1 : Int) (w1 : (Lit.int .i64 a1).wf = true) (a2 : ByteArray) (w2 : a2.size ≤ 140737488351232) (a3 : Int) (w3 : (Lit.int .i64 a3).wf = true) :
    ∃ k, lambrequinlaw20_CfgFlows.f k x0 a1 a2 a3 = some true := by
  refine Ev.rounds (g := fun k => lambrequinlaw20_CfgFlows.f k x0 a1 a2 a3) ?_
  unfold lambrequinlaw20_CfgFlows.f
  refine Ev.bind shown20_ev ?_
  by_cases c : (x0.length : Int) > 25
  · exact Ev.pos c (Ev.now _)
  · refine Ev.neg c (Ev.pos rfl ?_)
    have hl : x0.length ≤ 25 := by omega
    obtain ⟨b1, h1, e1⟩ := Reaches_ev x0 a1 a2 a3 (by omega)
    obtain ⟨c1, g1, f1⟩ := rReaches_ev x0 hl a1 a2 a3
    refine Ev.bind h1 (Ev.bind g1 (Ev.pos (same_ev e1 f1) ?_))
    obtain ⟨b2, h2, e2⟩ := Lives_ev x0 a1 a2 (by omega)
    obtain ⟨c2, g2, f2⟩ := rLives_ev x0 hl a1 a2
    refine Ev.bind h2 (Ev.bind g2 (Ev.pos (same_ev e2 f2) ?_))
    obtain ⟨b3, h3, e3⟩ := Taints_ev x0 a1 a2 (by omega)
    obtain ⟨c3, g3, f3⟩ := rTaints_ev x0 hl a1 a2
    exact Ev.bind h3 (Ev.bind g3 (Ev.some (same_ev e3 f3)))
theorem CfgFlows_walk (w : World) (x0 : (List Stmt)) (A0 : Option Addr) (c0 : Nat) (l0 : x0.length ≤ c0) (g0 : Kd.C k30 w A0 x0.length x0) (y0 : x0.length * 96 ≤ 140737488351232) (a1 : Int) (w1 : (Lit.int .i64 a1).wf = true) (a2 : ByteArray) (w2 : a2.size ≤ 140737488351232) (a3 : Int) (w3 : (Lit.int .i64 a3).wf = true) :
    Calls Try.prog 11 #[.slice A0 x0.length c0, .int .i64 a1, .string a2, .int .i64 a3] w fun e w' => e = .returned (.bool true) ∧ Below w.heap.size w w' := by
  obtain ⟨k, h⟩ := CfgFlows_pure x0 y0 a1 w1 a2 w2 a3 w3
  exact (lambrequinlaw20_CfgFlows.calls k A0 c0 x0 a1 a2 a3 true w g0 l0 h).mono (fun e w' h' => ⟨h'.1, h'.2⟩)
/-- no longer than the model's longest text -/
def bStr (s : ByteArray) : Prop := s.size ≤ 9223372036854775807
/-- What an argument of a type holds, read as the kind kd; B: how long its texts are. -/
structure Opens {α : Type} (P : Program) (t : TypeId) (kd : Kd α) (B : α → Prop) : Prop where
  size : P.cellsOf t = kd.sz
  opened : ∀ {H : Type} {enc : TypeId × Value → H} {w : World} {base : Nat} {sp : Nat → Bool} {held : Bool} {fuel : Nat} {cs : List Value} {x : DataW H × List MemPlace},
    DataW.trod enc P w base sp held fuel t cs = some x → ∃ a, kd.K w a cs ∧ B a
theorem Opens.as {α : Type} {P : Program} {t : TypeId} {kd : Kd α} {B B' : α → Prop} (h : Opens P t kd B) (hB : ∀ a, B a → B' a) : Opens P t kd B' :=
  ⟨h.size, fun hx => by obtain ⟨a, ha, hb⟩ := h.opened hx; exact ⟨a, ha, hB a hb⟩⟩
theorem opens_bool {P : Program} {t : TypeId} (ht : P.underlying t = some .bool) (hs : P.cellsOf t = 1) : Opens P t Kd.bool (fun _ => True) :=
  ⟨hs, fun h => by obtain ⟨b, rfl, _⟩ := DataW.trod_bool ht h; exact ⟨b, rfl, trivial⟩⟩
theorem opens_int {P : Program} {t : TypeId} {k : IntKind} (ht : P.underlying t = some (.int k)) (hs : P.cellsOf t = 1) : Opens P t (Kd.int k) (fun _ => True) :=
  ⟨hs, fun h => by obtain ⟨b, rfl, _⟩ := DataW.trod_int ht h; exact ⟨b, rfl, trivial⟩⟩
theorem opens_string {P : Program} {t : TypeId} (ht : P.underlying t = some .string) (hs : P.cellsOf t = 1) : Opens P t Kd.string bStr :=
  ⟨hs, fun h => by obtain ⟨b, rfl, _, hb⟩ := DataW.trod_string ht h; exact ⟨b, rfl, hb⟩⟩
theorem list_of {α : Type} (p : Nat → α → Prop) : ∀ n : Nat, (∀ i, i < n → ∃ y, p i y) → ∃ l : List α, l.length = n ∧ ∀ i y, l[i]? = some y → p i y
  | 0, _ => ⟨[], rfl, fun i y h => by simp at h⟩
  | n + 1, h => by
    obtain ⟨l, hl, hp⟩ := list_of p n (fun i hi => h i (by omega))
    obtain ⟨y, hy⟩ := h n (by omega)
    refine ⟨l ++ [y], by simp [hl], fun i z hz => ?_⟩
    rcases Nat.lt_trichotomy i n with hi | rfl | hi
    · rw [List.getElem?_append_left (by omega)] at hz
      exact hp i z hz
    · rw [List.getElem?_append_right (by omega), hl, Nat.sub_self] at hz
      simp at hz
      subst hz
      exact hy
    · rw [List.getElem?_eq_none (by simp [hl]; omega)] at hz
      simp at hz
theorem addr_add_add (a : Addr) (i j : Nat) : (a.add i).add j = a.add (i + j) := by
  unfold Addr.add
  by_cases hi : i = 0 <;> by_cases hj : j = 0 <;> simp [hi, hj, Nat.add_assoc]
theorem opens_slice {α : Type} {P : Program} {t e : TypeId} {kd : Kd α} {B : α → Prop} (ht : P.underlying t = some (.slice e)) (hs : P.cellsOf t = 1) (he : Opens P e kd B) (q : Nat) : Opens P t (Kd.slice q kd) (fun l => l.length ≤ 9223372036854775807 ∧ ∀ y ∈ l, B y) := by
  refine ⟨hs, fun {H enc w base sp held fuel cs x} h => ?_⟩
  rcases DataW.trod_slice ht h with ⟨rfl, _⟩ | ⟨a, len, cap, elems, rest, n, _, rfl, _, _, hl, hm, hlen, hel, _⟩
  · exact ⟨[], ⟨none, 0, rfl, Nat.le_refl _, rfl, by simp, fun h => absurd h (by simp)⟩, by simp, by simp⟩
  · obtain ⟨l, hll, hp⟩ := list_of (fun i y => B y ∧ ∃ c, c.length = kd.sz ∧ kd.K w y c ∧ ∀ j u, c[j]? = some u → w.cell? (a.add (i * kd.sz + j)) = some u) len (fun i hi => by
      have h1 := hel i hi
      rw [List.getElem?_eq_getElem (by omega)] at h1
      obtain ⟨cs', h2, h3⟩ := Option.bind_eq_some_iff.1 h1
      obtain ⟨y, hy, hby⟩ := he.opened h3
      obtain ⟨_, h4, h5⟩ := World.cells?_some h2
      refine ⟨y, hby, cs', by rw [h4, he.size], hy, fun j u hu => ?_⟩
      have hj : j < P.cellsOf e := by rw [← h4]; exact (List.getElem?_eq_some_iff.1 hu).1
      rw [← addr_add_add, ← he.size, h5 j hj, hu])
    subst hll
    refine ⟨l, ⟨some a, cap, rfl, hl, rfl, Nat.le_trans hl (Nat.le_trans hm (by decide)), fun _ => ⟨a, rfl, fun j p hj => (hp j p hj).2⟩⟩, Nat.le_trans hl (Nat.le_trans hm (by decide)), fun y hy => ?_⟩
    obtain ⟨i, hi, rfl⟩ := List.mem_iff_getElem.1 hy
    exact (hp i _ (List.getElem?_eq_getElem hi)).1
theorem opens_iso {α β : Type} {P : Program} {t : TypeId} {kd : Kd α} {B : α → Prop} (h : Opens P t kd B) (f : β → α) (hf : ∀ b, ∃ a, f a = b) : Opens P t (Kd.iso kd f) (fun b => B (f b)) :=
  ⟨h.size, fun hx => by obtain ⟨a, ha⟩ := h.opened hx; obtain ⟨b, rfl⟩ := hf a; exact ⟨b, ha⟩⟩
/-- The fields of a struct from the offset o on. -/
structure OpensL {α : Type} (P : Program) (fs : List Field) (o : Nat) (kd : Kd α) (B : α → Prop) : Prop where
  opened : ∀ {H : Type} {enc : TypeId × Value → H} {w : World} {base : Nat} {sp : Nat → Bool} {held : Bool} {fuel : Nat} (cs : List Value), cs.length = o + kd.sz →
    (∀ f ∈ fs, ∃ x, DataW.trod enc P w base sp held fuel f.type ((cs.drop f.offset).take (P.cellsOf f.type)) = some x) → ∃ a, kd.K w a (cs.drop o) ∧ B a
theorem opensL_one {α : Type} {P : Program} {f : Field} {o : Nat} {kd : Kd α} {B : α → Prop} (ho : f.offset = o) (h : Opens P f.type kd B) : OpensL P [f] o kd B := by
  refine ⟨fun {H enc w base sp held fuel} cs hcs hf => ?_⟩
  obtain ⟨x, hx⟩ := hf f (by simp)
  obtain ⟨a, ha, hb⟩ := h.opened hx
  rw [ho, h.size, List.take_of_length_le (by simp [hcs])] at ha
  exact ⟨a, ha, hb⟩
theorem opensL_cons {α β : Type} {P : Program} {f : Field} {fs : List Field} {o : Nat} {kd : Kd α} {kd' : Kd β} {B : α → Prop} {B' : β → Prop} (ho : f.offset = o) (h : Opens P f.type kd B) (hr : OpensL P fs (o + kd.sz) kd' B') : OpensL P (f :: fs) o (Kd.pair kd kd') (fun p => B p.1 ∧ B' p.2) := by
  refine ⟨fun {H enc w base sp held fuel} cs hcs hf => ?_⟩
  obtain ⟨x, hx⟩ := hf f (by simp)
  obtain ⟨a, ha, hba⟩ := h.opened hx
  have hcs' : cs.length = o + kd.sz + kd'.sz := by rw [hcs]; show o + (kd.sz + kd'.sz) = _; omega
  obtain ⟨b, hb, hbb⟩ := hr.opened cs hcs' (fun g hg => hf g (by simp [hg]))
  rw [ho, h.size] at ha
  refine ⟨(a, b), ⟨(cs.drop o).take kd.sz, (cs.drop (o + kd.sz)), ?_, ha, hb⟩, hba, hbb⟩
  rw [← List.drop_drop, List.take_append_drop]
theorem opens_struct {α : Type} {P : Program} {t : TypeId} {fs : List Field} {kd : Kd α} {B : α → Prop} (ht : P.underlying t = some (.struct ⟨fs⟩)) (hs : P.cellsOf t = kd.sz) (h : OpensL P fs 0 kd B) : Opens P t kd B := by
  refine ⟨hs, fun {H enc w base sp held fuel cs x} hx => ?_⟩
  obtain ⟨xs, n, _, _, hl, hlen, hf⟩ := DataW.trod_struct ht hx
  obtain ⟨a, ha, hb⟩ := h.opened (enc := enc) (w := w) (base := base) (sp := sp) (held := held) (fuel := n) cs (by rw [hl, hs]; omega) (fun f hfm => by
    obtain ⟨i, hi, rfl⟩ := List.mem_iff_getElem.1 hfm
    have h1 := hf i fs[i] (by simp [hi])
    exact ⟨xs[i]'(by rw [hlen]; simpa using hi), by rw [h1, List.getElem?_eq_getElem]⟩)
  exact ⟨a, by simpa using ha, hb⟩
theorem opens_isoL {α β : Type} {P : Program} {fs : List Field} {o : Nat} {kd : Kd α} {B : α → Prop} (h : OpensL P fs o kd B) (f : β → α) (hf : ∀ b, ∃ a, f a = b) : OpensL P fs o (Kd.iso kd f) (fun b => B (f b)) := by
  refine ⟨fun {H enc w base sp held fuel} cs hcs hx => ?_⟩
  obtain ⟨a, ha⟩ := h.opened cs hcs hx
  obtain ⟨b, rfl⟩ := hf a
  exact ⟨b, ha⟩
/-- an argument's value, opened -/
theorem Opens.argB {α : Type} {P : Program} {t : TypeId} {kd : Kd α} {B : α → Prop} (h : Opens P t kd B) {H : Type} {enc : TypeId × Value → H} {w : World} {base : Nat} {sp : Nat → Bool} {held : Bool} {v : Value} {d : DataW H} {ps : List MemPlace}
    (hv : DataW.Trod enc P w base sp held t v d ps) : ∃ a, kd.K w a v.cells.toList ∧ B a := by
  obtain ⟨fuel, hf⟩ := hv
  exact h.opened hf
theorem Opens.arg {α : Type} {P : Program} {t : TypeId} {kd : Kd α} {B : α → Prop} (h : Opens P t kd B) {H : Type} {enc : TypeId × Value → H} {w : World} {base : Nat} {sp : Nat → Bool} {held : Bool} {v : Value} {d : DataW H} {ps : List MemPlace}
    (hv : DataW.Trod enc P w base sp held t v d ps) : ∃ a, kd.K w a v.cells.toList := by
  obtain ⟨a, ha, _⟩ := h.argB hv
  exact ⟨a, ha⟩
/-- An argument's row is no longer than its weight allows. -/
theorem sized_row {H : Type} {enc : TypeId × Value → H} {P : Program} {W : World} {base : Nat} {spare : Nat → Bool} {held : Bool} {t e : TypeId} {a : Option Addr} {len cap : Nat} {d : DataW H} {ps : List MemPlace} {ts : List TypeId} {ds : List (DataW H)} {j : Nat}
    (hsz : (DataW.weightsEach P ts ds).all (· ≤ reachBytes) = true) (ht : ts[j]? = some t) (hd : ds[j]? = some d) (hu : P.underlying t = some (.slice e)) {B : Nat} (hB : P.bytesOf e = B)
    (h : DataW.Trod enc P W base spare held t (.slice a len cap) d ps) : len * B ≤ 140737488351232 := by
  obtain ⟨fuel, hf⟩ := h
  rcases DataW.trod_slice hu hf with ⟨hcs, _⟩ | ⟨x, l, c, elems, rest, n, _, hcs, hx, _, hl, _, hlen, _⟩
  · simp [Value.cells] at hcs
    obtain ⟨rfl, rfl, rfl⟩ := hcs
    simp
  · simp [Value.cells] at hcs
    obtain ⟨rfl, rfl, rfl⟩ := hcs
    obtain ⟨rfl, _⟩ := Prod.mk.inj hx
    have z := sized_slice hsz ht hd hu
    rw [hB, List.length_map, List.length_map, hlen] at z
    exact Nat.le_trans (Nat.mul_le_mul_right _ (Nat.le_add_right _ _)) z
def bStmt (x : Stmt) : Prop := True ∧ bStr (x.x) ∧ bStr (x.y) ∧ bStr (x.z) ∧ bStr (x.op) ∧ True ∧ True ∧ True
theorem opens_Stmt : Opens Try.prog 30 k30 bStmt :=
  Opens.as (opens_struct Try.underlying30 (by kernel_rfl) (opens_isoL (opensL_cons rfl (opens_int (by kernel_rfl) (by kernel_rfl)) (opensL_cons rfl (opens_string (by kernel_rfl) (by kernel_rfl)) (opensL_cons rfl (opens_string (by kernel_rfl) (by kernel_rfl)) (opensL_cons rfl (opens_string (by kernel_rfl) (by kernel_rfl)) (opensL_cons rfl (opens_string (by kernel_rfl) (by kernel_rfl)) (opensL_cons rfl (opens_int (by kernel_rfl) (by kernel_rfl)) (opensL_cons rfl (opens_int (by kernel_rfl) (by kernel_rfl)) (opensL_one rfl (opens_int (by kernel_rfl) (by kernel_rfl)))))))))) _ (fun b => ⟨⟨b.1, b.2.1, b.2.2.1, b.2.2.2.1, b.2.2.2.2.1, b.2.2.2.2.2.1, b.2.2.2.2.2.2.1, b.2.2.2.2.2.2.2⟩, rfl⟩))) (fun _ h => h)
def bVar (x : Var) : Prop := bStr (x.name) ∧ True ∧ True ∧ True
theorem opens_Var : Opens Try.prog 54 k54 bVar :=
  Opens.as (opens_struct Try.underlying54 (by kernel_rfl) (opens_isoL (opensL_cons rfl (opens_string (by kernel_rfl) (by kernel_rfl)) (opensL_cons rfl (opens_int (by kernel_rfl) (by kernel_rfl)) (opensL_cons rfl (opens_int (by kernel_rfl) (by kernel_rfl)) (opensL_one rfl (opens_bool (by kernel_rfl) (by kernel_rfl)))))) _ (fun b => ⟨⟨b.1, b.2.1, b.2.2.1, b.2.2.2⟩, rfl⟩))) (fun _ h => h)
def bVisit (x : Visit) : Prop := True ∧ (x.vars.length ≤ 9223372036854775807 ∧ ∀ y ∈ x.vars, bVar (y))
theorem opens_Visit : Opens Try.prog 52 k52 bVisit :=
  Opens.as (opens_struct Try.underlying52 (by kernel_rfl) (opens_isoL (opensL_cons rfl (opens_int (by kernel_rfl) (by kernel_rfl)) (opensL_one rfl (opens_slice (by kernel_rfl) (by kernel_rfl) opens_Var 54))) _ (fun b => ⟨⟨b.1, b.2⟩, rfl⟩))) (fun _ h => h)
def bScript (x : Script) : Prop := (x.l.length ≤ 9223372036854775807 ∧ ∀ y ∈ x.l, bStmt (y)) ∧ (x.ins.length ≤ 9223372036854775807 ∧ ∀ y ∈ x.ins, True) ∧ (x.ora.length ≤ 9223372036854775807 ∧ ∀ y ∈ x.ora, True) ∧ True
theorem opens_Script : Opens Try.prog 43 k43 bScript :=
  Opens.as (opens_struct Try.underlying43 (by kernel_rfl) (opens_isoL (opensL_cons rfl (opens_slice (by kernel_rfl) (by kernel_rfl) opens_Stmt 30) (opensL_cons rfl (opens_slice (by kernel_rfl) (by kernel_rfl) (opens_int (t := 2) (by kernel_rfl) (by kernel_rfl)) 2) (opensL_cons rfl (opens_slice (by kernel_rfl) (by kernel_rfl) (opens_bool (t := 4) (by kernel_rfl) (by kernel_rfl)) 4) (opensL_one rfl (opens_int (by kernel_rfl) (by kernel_rfl)))))) _ (fun b => ⟨⟨b.1, b.2.1, b.2.2.1, b.2.2.2⟩, rfl⟩))) (fun _ h => h)
def bRVar (x : RVar) : Prop := bStr (x.name) ∧ True ∧ True ∧ True
theorem opens_RVar : Opens Try.prog 68 k68 bRVar :=
  Opens.as (opens_struct Try.underlying68 (by kernel_rfl) (opens_isoL (opensL_cons rfl (opens_string (by kernel_rfl) (by kernel_rfl)) (opensL_cons rfl (opens_int (by kernel_rfl) (by kernel_rfl)) (opensL_cons rfl (opens_int (by kernel_rfl) (by kernel_rfl)) (opensL_one rfl (opens_bool (by kernel_rfl) (by kernel_rfl)))))) _ (fun b => ⟨⟨b.1, b.2.1, b.2.2.1, b.2.2.2⟩, rfl⟩))) (fun _ h => h)
def bRVisit (x : RVisit) : Prop := True ∧ (x.vars.length ≤ 9223372036854775807 ∧ ∀ y ∈ x.vars, bRVar (y))
theorem opens_RVisit : Opens Try.prog 67 k67 bRVisit :=
  Opens.as (opens_struct Try.underlying67 (by kernel_rfl) (opens_isoL (opensL_cons rfl (opens_int (by kernel_rfl) (by kernel_rfl)) (opensL_one rfl (opens_slice (by kernel_rfl) (by kernel_rfl) opens_RVar 68))) _ (fun b => ⟨⟨b.1, b.2⟩, rfl⟩))) (fun _ h => h)
def bRState (x : RState) : Prop := True ∧ (x.vars.length ≤ 9223372036854775807 ∧ ∀ y ∈ x.vars, bRVar (y)) ∧ (x.ins.length ≤ 9223372036854775807 ∧ ∀ y ∈ x.ins, True) ∧ (x.ora.length ≤ 9223372036854775807 ∧ ∀ y ∈ x.ora, True)
theorem opens_RState : Opens Try.prog 77 k77 bRState :=
  Opens.as (opens_struct Try.underlying77 (by kernel_rfl) (opens_isoL (opensL_cons rfl (opens_int (by kernel_rfl) (by kernel_rfl)) (opensL_cons rfl (opens_slice (by kernel_rfl) (by kernel_rfl) opens_RVar 68) (opensL_cons rfl (opens_slice (by kernel_rfl) (by kernel_rfl) (opens_int (t := 2) (by kernel_rfl) (by kernel_rfl)) 2) (opensL_one rfl (opens_slice (by kernel_rfl) (by kernel_rfl) (opens_bool (t := 4) (by kernel_rfl) (by kernel_rfl)) 4))))) _ (fun b => ⟨⟨b.1, b.2.1, b.2.2.1, b.2.2.2⟩, rfl⟩))) (fun _ h => h)
end Go.Proofs.Ytnepgcbgkhikkaa.H
namespace Go.Proofs.Ytnepgcbgkhikkaa.cfgFlows
open Go.ChangeShapes Go.WideShapes Go.ChangeAt Go.RowKit Go.Proofs.Ytnepgcbgkhikkaa.H Go.Proofs.YtnepgcbgkhikkaaW.PrintWords
open Go.ChangeMaps (open_string shut_string)
theorem own : ownKnob Try.prog.godebug = none := by kernel_rfl
theorem laidOut : laidOutB Try.prog = true := by kernel_rfl
set_option maxRecDepth 100000 in
theorem lifted (os : Os) (started : os.Started) (H : Type) (enc : TypeId × Value → H) :
    ReturnsInHanded {} Try.checked os 11 .any (Rows.cfgFlowsSpec.pre6 enc Try.prog Try.f11 Rows.cfgFlowsRow.domain false) (Rows.cfgFlowsSpec.post enc Try.prog Try.f11 false true false false) := by
  refine returnsInHanded_of_change_sized (C := Try.checked) own started (by kernel_rfl) Try.func11
    (ChangeSpec.witness6 (enc := enc) (C := Try.checked) false ⟨#[], #[.slice none 0 0, .int .i64 0, .string ⟨#[]⟩, .int .i64 0], []⟩ 8 (by kernel_rfl) (by kernel_rfl) (by kernel_rfl) (by kernel_rfl)) ?_
  intro W base args ds gs before hval0 hW hcnd hsz0 _
  have hsz : (DataW.weightsEach Try.prog (Try.f11.params.toList ++ Rows.cfgFlowsSpec.plain.varTypes Try.prog) (ds ++ gs)).all (· ≤ reachBytes) = true := hsz0
  have hval : ∀ (j : Nat) t v, Try.f11.params[j]? = some t → args[j]? = some v → Value.okWide Try.prog W .any base t v := hval0
  have hW' := hW
  obtain ⟨p, q, hA0, hV, rfl, hfz, hnd⟩ := hW
  have hA : DataW.TrodAll enc Try.prog W 0 (fun _ => true) true Try.f11.params.toList args.toList ds p := hA0
  rw [Try.params11] at hA hval hsz
  obtain ⟨v0, vs0, d0, ds0, p0, q0, hargs, rfl, rfl, h0, r0⟩ := trodAll_cons hA
  obtain ⟨v1, vs1, d1, ds1, p1, q1, rfl, rfl, rfl, h1, r1⟩ := trodAll_cons r0
  obtain ⟨v2, vs2, d2, ds2, p2, q2, rfl, rfl, rfl, h2, r2⟩ := trodAll_cons r1
  obtain ⟨v3, vs3, d3, ds3, p3, q3, rfl, rfl, rfl, h3, r3⟩ := trodAll_cons r2
  obtain ⟨rfl, rfl, rfl⟩ := trodAll_nil r3
  obtain rfl : args = #[v0, v1, v2, v3] := by cases args; simp_all
  obtain ⟨rfl, rfl⟩ := trodVars_none hV
  have k0 := h0
  have lt0 : ∀ x ∈ p0, x.block < W.heap.size := by obtain ⟨m, hm⟩ := k0; exact DataW.trod_lt m _ _ _ hm
  obtain ⟨a0, len0, cap0, rfl⟩ := okWide_slice Try.underlying22 (hval 0 22 v0 rfl rfl)
  have y0 := sized_row hsz (j := 0) (t := 22) rfl rfl Try.underlying22 (B := 96) (by kernel_rfl) h0
  obtain ⟨x0, A0, c0, e0, l0, g0⟩ := (opens_slice Try.underlying22 (by kernel_rfl) opens_Stmt 30).arg k0
  simp only [Value.cells, List.cons.injEq, and_true, Value.slice.injEq] at e0
  obtain ⟨rfl, rfl, rfl⟩ := e0
  obtain ⟨a1, rfl, rfl, rfl, w1⟩ := open_int Try.underlying3 (hval 1 3 v1 rfl rfl) h1
  obtain ⟨a2, rfl, rfl, rfl, y2⟩ := open_string Try.underlying9 (hval 2 9 v2 rfl rfl) h2
  have w2 : a2.size ≤ 140737488351232 := by
    have z := sized_string hsz (j := 2) (t := 9) rfl rfl
    rw [Array.length_toList] at z
    exact z
  obtain ⟨a3, rfl, rfl, rfl, w3⟩ := open_int Try.underlying3 (hval 3 3 v3 rfl rfl) h3
  clear hA0 hval0 hsz0 hsz
  refine (CfgFlows_walk W x0 a0 cap0 l0 g0 y0 a1 w1 a2 w2 a3 w3).mono fun e W' ⟨he, bel⟩ => ?_
  subst he
  exact ⟨_, rfl, _, _, _, [], _, [], hW', trodAll_mk1 (shut_bool Try.underlying4 _), (trodAll_cons_mk (Below.trod laidOut (by kernel_rfl) (of_decide_eq_true (by kernel_rfl)) k0 bel lt0) (trodAll_cons_mk (shut_int Try.underlying3 w1) (trodAll_cons_mk (shut_string Try.underlying9 y2) (trodAll_cons_mk (shut_int Try.underlying3 w3) trodAll_mk0)))), rfl, bel.frame _, fun h => by cases h⟩
theorem over : Rows.cfgFlowsRow.holds Try.pinned (OpenSpec.ofChange Rows.cfgFlowsSpec) :=
  OpenClaim.holds_of_wide 11 Try.f11 rfl rfl rfl rfl rfl rfl rfl ⟨rfl, rfl, rfl, rfl, rfl⟩ rfl rfl rfl rfl rfl (by kernel_rfl) Try.func11 (by kernel_rfl)
    (of_decide_eq_true (by kernel_rfl)) (by unfold Func.isWrapper; first | (rw [if_pos (by decide +kernel)]; kernel_rfl) | (rw [if_neg (by decide +kernel)]; exact ⟨rfl, rfl⟩))
    (fun os started H enc _ => lifted os started H enc)
theorem proved : Rows.CfgFlowsSaid := over
end Go.Proofs.Ytnepgcbgkhikkaa.cfgFlows
namespace Go.Proofs.Ytnepgcbgkhikkaa
theorem cfgFlows_holds : Rows.CfgFlowsSaid := cfgFlows.proved
#print axioms cfgFlows_holds
end Go.Proofs.Ytnepgcbgkhikkaa

/- RowCfgSteps of the seat's law CfgSteps: the law holds, under the statement's own conditions. -/
import Derived.Test.YtnepgcbgkhikkaaMA
import Derived.Test.YtnepgcbgkhikkaaMC
import Derived.Test.YtnepgcbgkhikkaaMB
import Derived.Test.YtnepgcbgkhikkaaMD
import Derived.Test.YtnepgcbgkhikkaaRows
import Derived.Test.YtnepgcbgkhikkaaWSized
import Derived.WalkKit
import Derived.ProofKit
import Derived.OpenShut
import Derived.ShutString
import Derived.ChangeOld
import Derived.Below
import Derived.SizedLaws
import Derived.Carry
-- made by a program of this session (wip/tools) out of the translation; Lean checks it.
namespace Go.Proofs.Ytnepgcbgkhikkaa.H
open Go.RowKit Go.Proofs.YtnepgcbgkhikkaaW.PrintWords Go.Proofs.YtnepgcbgkhikkaaW.PrintLast Go.Proofs.YtnepgcbgkhikkaaW.PrintMore
attribute [local go_sem] max2_int min2_int max_two min_two max_three min_three max_four min_four   -- for this text's walks alone
set_option linter.unusedVariables false
set_option linter.unusedSimpArgs false

/-! ### lambrequinlaw20_CfgSteps: function 4 -/
mutual
def lambrequinlaw20_CfgSteps.j0 : Nat → List (Stmt) → Int → Int → Bool → Bool → Option (Bool)
 | 0, _, _, _, _, _ => none
 | k + 1, x0, x1, x2, x7, x44 => if x44 = true then (some x7) else (if 0 ≤ x1 then (if x1 < (x0.length : Int) then ((cfg_Def.f ((rd_T30 x0 x1).kind) ((rd_T30 x0 x1).x) ((rd_T30 x0 x1).y) ((rd_T30 x0 x1).z) ((rd_T30 x0 x1).op) ((rd_T30 x0 x1).n) ((rd_T30 x0 x1).a) ((rd_T30 x0 x1).b)).bind fun bt103 => (if bt103.2 = true then ((cfg_Next.f x0 x1).bind fun t106 => (lambrequinlaw20_CfgSteps.l0 k x0 x1 x2 x7 bt103.1 t106 0)) else (if x7 = true then ((cfg_Reaches.f k x0 x2 bt103.1 x1).bind fun t105 => (some (!t105))) else (some false)))) else (none)) else (none))
def lambrequinlaw20_CfgSteps.l0 : Nat → List (Stmt) → Int → Int → Bool → ByteArray → List Int → Int → Option (Bool)
 | 0, _, _, _, _, _, _, _ => none
 | k + 1, x0, x1, x2, x7, x8, x10, x11 => if x11 < (x10.length : Int) then (if 0 ≤ x11 then ((cfg_Reaches.f k x0 (rd x10 x11) x8 x1).bind fun t110 => (if t110 = true then (lambrequinlaw20_CfgSteps.l0 k x0 x1 x2 x7 x8 x10 (wrap64 (x11 + 1))) else (some false))) else (none)) else (if 0 ≤ x2 then (if x2 < (x0.length : Int) then ((cfg_Def.f ((rd_T30 x0 x2).kind) ((rd_T30 x0 x2).x) ((rd_T30 x0 x2).y) ((rd_T30 x0 x2).z) ((rd_T30 x0 x2).op) ((rd_T30 x0 x2).n) ((rd_T30 x0 x2).a) ((rd_T30 x0 x2).b)).bind fun bt112 => ((cfg_Reaches.f k x0 x2 x8 x1).bind fun t114 => (if t114 = true then (if bt112.2 = true then (lambrequinlaw20_CfgSteps.j2 k x0 x1 x2 x7 x8 (bt112.1.toList != x8.toList)) else (lambrequinlaw20_CfgSteps.j2 k x0 x1 x2 x7 x8 true)) else (lambrequinlaw20_CfgSteps.j2 k x0 x1 x2 x7 x8 false)))) else (none)) else (none))
def lambrequinlaw20_CfgSteps.j2 : Nat → List (Stmt) → Int → Int → Bool → ByteArray → Bool → Option (Bool)
 | 0, _, _, _, _, _, _ => none
 | k + 1, x0, x1, x2, x7, x8, x104 => if x104 = true then ((cfg_Next.f x0 x2).bind fun t115 => (lambrequinlaw20_CfgSteps.l1 k x0 x1 x2 x7 x8 t115 0)) else (lambrequinlaw20_CfgSteps.j4 k x0 x1 x2 x7 x8)
def lambrequinlaw20_CfgSteps.j4 : Nat → List (Stmt) → Int → Int → Bool → ByteArray → Option (Bool)
 | 0, _, _, _, _, _ => none
 | k + 1, x0, x1, x2, x7, x8 => (cfg_Prev.f k x0 x2).bind fun t120 => (lambrequinlaw20_CfgSteps.l2 k x0 x1 x2 x7 x8 t120 false 0)
def lambrequinlaw20_CfgSteps.l2 : Nat → List (Stmt) → Int → Int → Bool → ByteArray → List Int → Bool → Int → Option (Bool)
 | 0, _, _, _, _, _, _, _, _ => none
 | k + 1, x0, x1, x2, x7, x8, x16, x17, x18 => if x18 < (x16.length : Int) then (if 0 ≤ x18 then (if 0 ≤ (rd x16 x18) then (if (rd x16 x18) < (x0.length : Int) then ((cfg_Def.f ((rd_T30 x0 (rd x16 x18)).kind) ((rd_T30 x0 (rd x16 x18)).x) ((rd_T30 x0 (rd x16 x18)).y) ((rd_T30 x0 (rd x16 x18)).z) ((rd_T30 x0 (rd x16 x18)).op) ((rd_T30 x0 (rd x16 x18)).n) ((rd_T30 x0 (rd x16 x18)).a) ((rd_T30 x0 (rd x16 x18)).b)).bind fun bt125 => (if x17 = true then (lambrequinlaw20_CfgSteps.l2 k x0 x1 x2 x7 x8 x16 true (wrap64 (x18 + 1))) else (if (rd x16 x18) = x1 then (lambrequinlaw20_CfgSteps.l2 k x0 x1 x2 x7 x8 x16 true (wrap64 (x18 + 1))) else ((cfg_Reaches.f k x0 (rd x16 x18) x8 x1).bind fun t129 => (if t129 = true then (if bt125.2 = true then (lambrequinlaw20_CfgSteps.l2 k x0 x1 x2 x7 x8 x16 (bt125.1.toList != x8.toList) (wrap64 (x18 + 1))) else (lambrequinlaw20_CfgSteps.l2 k x0 x1 x2 x7 x8 x16 true (wrap64 (x18 + 1)))) else (lambrequinlaw20_CfgSteps.l2 k x0 x1 x2 x7 x8 x16 false (wrap64 (x18 + 1)))))))) else (none)) else (none)) else (none)) else (if x7 = true then ((cfg_Reaches.f k x0 x2 x8 x1).bind fun t130 => (some (t130 == x17))) else (some false))
def lambrequinlaw20_CfgSteps.l1 : Nat → List (Stmt) → Int → Int → Bool → ByteArray → List Int → Int → Option (Bool)
 | 0, _, _, _, _, _, _, _ => none
 | k + 1, x0, x1, x2, x7, x8, x14, x15 => if x15 < (x14.length : Int) then (if 0 ≤ x15 then ((cfg_Reaches.f k x0 (rd x14 x15) x8 x1).bind fun t119 => (if t119 = true then (lambrequinlaw20_CfgSteps.l1 k x0 x1 x2 x7 x8 x14 (wrap64 (x15 + 1))) else (some false))) else (none)) else (lambrequinlaw20_CfgSteps.j4 k x0 x1 x2 x7 x8)
end
def lambrequinlaw20_CfgSteps.f (k : Nat) (l0 : List (Stmt)) (a1 : Int) (a2 : Int) : Option (Bool) := (lambrequinlaw20_shown.f k).bind fun t101 => (if (l0.length : Int) > 25 then (lambrequinlaw20_CfgSteps.j0 k l0 a1 a2 t101 true) else (if a1 < 0 then (lambrequinlaw20_CfgSteps.j0 k l0 a1 a2 t101 true) else (if a1 ≥ (l0.length : Int) then (lambrequinlaw20_CfgSteps.j0 k l0 a1 a2 t101 true) else (if a2 < 0 then (lambrequinlaw20_CfgSteps.j0 k l0 a1 a2 t101 true) else (lambrequinlaw20_CfgSteps.j0 k l0 a1 a2 t101 (decide (a2 ≥ (l0.length : Int))))))))
theorem lambrequinlaw20_CfgSteps.mono_l : ∀ k, (∀ y0 y1 y2 y3 y4, LeO (lambrequinlaw20_CfgSteps.j0 k y0 y1 y2 y3 y4) (lambrequinlaw20_CfgSteps.j0 (k + 1) y0 y1 y2 y3 y4)) ∧ (∀ y0 y1 y2 y3 y4 y5 y6, LeO (lambrequinlaw20_CfgSteps.l0 k y0 y1 y2 y3 y4 y5 y6) (lambrequinlaw20_CfgSteps.l0 (k + 1) y0 y1 y2 y3 y4 y5 y6)) ∧ (∀ y0 y1 y2 y3 y4 y5, LeO (lambrequinlaw20_CfgSteps.j2 k y0 y1 y2 y3 y4 y5) (lambrequinlaw20_CfgSteps.j2 (k + 1) y0 y1 y2 y3 y4 y5)) ∧ (∀ y0 y1 y2 y3 y4, LeO (lambrequinlaw20_CfgSteps.j4 k y0 y1 y2 y3 y4) (lambrequinlaw20_CfgSteps.j4 (k + 1) y0 y1 y2 y3 y4)) ∧ (∀ y0 y1 y2 y3 y4 y5 y6 y7, LeO (lambrequinlaw20_CfgSteps.l2 k y0 y1 y2 y3 y4 y5 y6 y7) (lambrequinlaw20_CfgSteps.l2 (k + 1) y0 y1 y2 y3 y4 y5 y6 y7)) ∧ (∀ y0 y1 y2 y3 y4 y5 y6, LeO (lambrequinlaw20_CfgSteps.l1 k y0 y1 y2 y3 y4 y5 y6) (lambrequinlaw20_CfgSteps.l1 (k + 1) y0 y1 y2 y3 y4 y5 y6))
 | 0 => ⟨fun _ _ _ _ _ r h => by simp [lambrequinlaw20_CfgSteps.j0] at h, fun _ _ _ _ _ _ _ r h => by simp [lambrequinlaw20_CfgSteps.l0] at h, fun _ _ _ _ _ _ r h => by simp [lambrequinlaw20_CfgSteps.j2] at h, fun _ _ _ _ _ r h => by simp [lambrequinlaw20_CfgSteps.j4] at h, fun _ _ _ _ _ _ _ _ r h => by simp [lambrequinlaw20_CfgSteps.l2] at h, fun _ _ _ _ _ _ _ r h => by simp [lambrequinlaw20_CfgSteps.l1] at h⟩
 | k + 1 => by
  obtain ⟨ih0, ih1, ih2, ih3, ih4, ih5⟩ := lambrequinlaw20_CfgSteps.mono_l k
  refine ⟨?_, ?_, ?_, ?_, ?_, ?_⟩
  ·intro y0 y1 y2 y3 y4
   unfold lambrequinlaw20_CfgSteps.j0
   repeat' first
   | (with_reducible exact ih0 _ _ _ _ _)
   | (with_reducible exact ih1 _ _ _ _ _ _ _)
   | (with_reducible exact ih2 _ _ _ _ _ _)
   | (with_reducible exact ih3 _ _ _ _ _)
   | (with_reducible exact ih4 _ _ _ _ _ _ _ _)
   | (with_reducible exact ih5 _ _ _ _ _ _ _)
   | (with_reducible exact cfg_Prev.mono _ _ _)
   | (with_reducible exact cfg_Reaches.mono _ _ _ _ _)
   | (with_reducible exact lambrequinlaw20_shown.mono _)
   | (with_reducible exact LeO.refl _)
   | (with_reducible exact LeO.none _)
   | (with_reducible refine LeO.ite ?_ ?_)
   | (with_reducible refine LeO.bind ?_ (fun _ => ?_))
   | exact ih0 _ _ _ _ _
   | exact ih1 _ _ _ _ _ _ _
   | exact ih2 _ _ _ _ _ _
   | exact ih3 _ _ _ _ _
   | exact ih4 _ _ _ _ _ _ _ _
   | exact ih5 _ _ _ _ _ _ _
   | exact cfg_Prev.mono _ _ _
   | exact cfg_Reaches.mono _ _ _ _ _
   | exact lambrequinlaw20_shown.mono _
   | exact LeO.none _
   | refine LeO.ite ?_ ?_
   | refine LeO.bind ?_ (fun _ => ?_)
  ·intro y0 y1 y2 y3 y4 y5 y6
   unfold lambrequinlaw20_CfgSteps.l0
   repeat' first
   | (with_reducible exact ih0 _ _ _ _ _)
   | (with_reducible exact ih1 _ _ _ _ _ _ _)
   | (with_reducible exact ih2 _ _ _ _ _ _)
   | (with_reducible exact ih3 _ _ _ _ _)
   | (with_reducible exact ih4 _ _ _ _ _ _ _ _)
   | (with_reducible exact ih5 _ _ _ _ _ _ _)
   | (with_reducible exact cfg_Prev.mono _ _ _)
   | (with_reducible exact cfg_Reaches.mono _ _ _ _ _)
   | (with_reducible exact lambrequinlaw20_shown.mono _)
   | (with_reducible exact LeO.refl _)
   | (with_reducible exact LeO.none _)
   | (with_reducible refine LeO.ite ?_ ?_)
   | (with_reducible refine LeO.bind ?_ (fun _ => ?_))
   | exact ih0 _ _ _ _ _
   | exact ih1 _ _ _ _ _ _ _
   | exact ih2 _ _ _ _ _ _
   | exact ih3 _ _ _ _ _
   | exact ih4 _ _ _ _ _ _ _ _
   | exact ih5 _ _ _ _ _ _ _
   | exact cfg_Prev.mono _ _ _
   | exact cfg_Reaches.mono _ _ _ _ _
   | exact lambrequinlaw20_shown.mono _
   | exact LeO.none _
   | refine LeO.ite ?_ ?_
   | refine LeO.bind ?_ (fun _ => ?_)
  ·intro y0 y1 y2 y3 y4 y5
   unfold lambrequinlaw20_CfgSteps.j2
   repeat' first
   | (with_reducible exact ih0 _ _ _ _ _)
   | (with_reducible exact ih1 _ _ _ _ _ _ _)
   | (with_reducible exact ih2 _ _ _ _ _ _)
   | (with_reducible exact ih3 _ _ _ _ _)
   | (with_reducible exact ih4 _ _ _ _ _ _ _ _)
   | (with_reducible exact ih5 _ _ _ _ _ _ _)
   | (with_reducible exact cfg_Prev.mono _ _ _)
   | (with_reducible exact cfg_Reaches.mono _ _ _ _ _)
   | (with_reducible exact lambrequinlaw20_shown.mono _)
   | (with_reducible exact LeO.refl _)
   | (with_reducible exact LeO.none _)
   | (with_reducible refine LeO.ite ?_ ?_)
   | (with_reducible refine LeO.bind ?_ (fun _ => ?_))
   | exact ih0 _ _ _ _ _
   | exact ih1 _ _ _ _ _ _ _
   | exact ih2 _ _ _ _ _ _
   | exact ih3 _ _ _ _ _
   | exact ih4 _ _ _ _ _ _ _ _
   | exact ih5 _ _ _ _ _ _ _
   | exact cfg_Prev.mono _ _ _
   | exact cfg_Reaches.mono _ _ _ _ _
   | exact lambrequinlaw20_shown.mono _
   | exact LeO.none _
   | refine LeO.ite ?_ ?_
   | refine LeO.bind ?_ (fun _ => ?_)
  ·intro y0 y1 y2 y3 y4
   unfold lambrequinlaw20_CfgSteps.j4
   repeat' first
   | (with_reducible exact ih0 _ _ _ _ _)
   | (with_reducible exact ih1 _ _ _ _ _ _ _)
   | (with_reducible exact ih2 _ _ _ _ _ _)
   | (with_reducible exact ih3 _ _ _ _ _)
   | (with_reducible exact ih4 _ _ _ _ _ _ _ _)
   | (with_reducible exact ih5 _ _ _ _ _ _ _)
   | (with_reducible exact cfg_Prev.mono _ _ _)
   | (with_reducible exact cfg_Reaches.mono _ _ _ _ _)
   | (with_reducible exact lambrequinlaw20_shown.mono _)
   | (with_reducible exact LeO.refl _)
   | (with_reducible exact LeO.none _)
   | (with_reducible refine LeO.ite ?_ ?_)
   | (with_reducible refine LeO.bind ?_ (fun _ => ?_))
   | exact ih0 _ _ _ _ _
   | exact ih1 _ _ _ _ _ _ _
   | exact ih2 _ _ _ _ _ _
   | exact ih3 _ _ _ _ _
   | exact ih4 _ _ _ _ _ _ _ _
   | exact ih5 _ _ _ _ _ _ _
   | exact cfg_Prev.mono _ _ _
   | exact cfg_Reaches.mono _ _ _ _ _
   | exact lambrequinlaw20_shown.mono _
   | exact LeO.none _
   | refine LeO.ite ?_ ?_
   | refine LeO.bind ?_ (fun _ => ?_)
  ·intro y0 y1 y2 y3 y4 y5 y6 y7
   unfold lambrequinlaw20_CfgSteps.l2
   repeat' first
   | (with_reducible exact ih0 _ _ _ _ _)
   | (with_reducible exact ih1 _ _ _ _ _ _ _)
   | (with_reducible exact ih2 _ _ _ _ _ _)
   | (with_reducible exact ih3 _ _ _ _ _)
   | (with_reducible exact ih4 _ _ _ _ _ _ _ _)
   | (with_reducible exact ih5 _ _ _ _ _ _ _)
   | (with_reducible exact cfg_Prev.mono _ _ _)
   | (with_reducible exact cfg_Reaches.mono _ _ _ _ _)
   | (with_reducible exact lambrequinlaw20_shown.mono _)
   | (with_reducible exact LeO.refl _)
   | (with_reducible exact LeO.none _)
   | (with_reducible refine LeO.ite ?_ ?_)
   | (with_reducible refine LeO.bind ?_ (fun _ => ?_))
   | exact ih0 _ _ _ _ _
   | exact ih1 _ _ _ _ _ _ _
   | exact ih2 _ _ _ _ _ _
   | exact ih3 _ _ _ _ _
   | exact ih4 _ _ _ _ _ _ _ _
   | exact ih5 _ _ _ _ _ _ _
   | exact cfg_Prev.mono _ _ _
   | exact cfg_Reaches.mono _ _ _ _ _
   | exact lambrequinlaw20_shown.mono _
   | exact LeO.none _
   | refine LeO.ite ?_ ?_
   | refine LeO.bind ?_ (fun _ => ?_)
  ·intro y0 y1 y2 y3 y4 y5 y6
   unfold lambrequinlaw20_CfgSteps.l1
   repeat' first
   | (with_reducible exact ih0 _ _ _ _ _)
   | (with_reducible exact ih1 _ _ _ _ _ _ _)
   | (with_reducible exact ih2 _ _ _ _ _ _)
   | (with_reducible exact ih3 _ _ _ _ _)
   | (with_reducible exact ih4 _ _ _ _ _ _ _ _)
   | (with_reducible exact ih5 _ _ _ _ _ _ _)
   | (with_reducible exact cfg_Prev.mono _ _ _)
   | (with_reducible exact cfg_Reaches.mono _ _ _ _ _)
   | (with_reducible exact lambrequinlaw20_shown.mono _)
   | (with_reducible exact LeO.refl _)
   | (with_reducible exact LeO.none _)
   | (with_reducible refine LeO.ite ?_ ?_)
   | (with_reducible refine LeO.bind ?_ (fun _ => ?_))
   | exact ih0 _ _ _ _ _
   | exact ih1 _ _ _ _ _ _ _
   | exact ih2 _ _ _ _ _ _
   | exact ih3 _ _ _ _ _
   | exact ih4 _ _ _ _ _ _ _ _
   | exact ih5 _ _ _ _ _ _ _
   | exact cfg_Prev.mono _ _ _
   | exact cfg_Reaches.mono _ _ _ _ _
   | exact lambrequinlaw20_shown.mono _
   | exact LeO.none _
   | refine LeO.ite ?_ ?_
   | refine LeO.bind ?_ (fun _ => ?_)
theorem lambrequinlaw20_CfgSteps.mono : ∀ a0 a1 a2 k, LeO (lambrequinlaw20_CfgSteps.f k a0 a1 a2) (lambrequinlaw20_CfgSteps.f (k + 1) a0 a1 a2) := by
 intro a0 a1 a2 k
 obtain ⟨ih0, ih1, ih2, ih3, ih4, ih5⟩ := lambrequinlaw20_CfgSteps.mono_l k
 unfold lambrequinlaw20_CfgSteps.f
 repeat' first
   | (with_reducible exact ih0 _ _ _ _ _)
   | (with_reducible exact ih1 _ _ _ _ _ _ _)
   | (with_reducible exact ih2 _ _ _ _ _ _)
   | (with_reducible exact ih3 _ _ _ _ _)
   | (with_reducible exact ih4 _ _ _ _ _ _ _ _)
   | (with_reducible exact ih5 _ _ _ _ _ _ _)
   | (with_reducible exact cfg_Prev.mono _ _ _)
   | (with_reducible exact cfg_Reaches.mono _ _ _ _ _)
   | (with_reducible exact lambrequinlaw20_shown.mono _)
   | (with_reducible exact LeO.refl _)
   | (with_reducible exact LeO.none _)
   | (with_reducible refine LeO.ite ?_ ?_)
   | (with_reducible refine LeO.bind ?_ (fun _ => ?_))
   | exact ih0 _ _ _ _ _
   | exact ih1 _ _ _ _ _ _ _
   | exact ih2 _ _ _ _ _ _
   | exact ih3 _ _ _ _ _
   | exact ih4 _ _ _ _ _ _ _ _
   | exact ih5 _ _ _ _ _ _ _
   | exact cfg_Prev.mono _ _ _
   | exact cfg_Reaches.mono _ _ _ _ _
   | exact lambrequinlaw20_shown.mono _
   | exact LeO.none _
   | refine LeO.ite ?_ ?_
   | refine LeO.bind ?_ (fun _ => ?_)
set_option maxHeartbeats 8000000 in
set_option maxRecDepth 100000 in
theorem lambrequinlaw20_CfgSteps.calls (k : Nat) (A0 : Option Addr) (c0 : Nat) (l0 : List (Stmt)) (a1 : Int) (a2 : Int) (r : Bool) (w : World) (hr0 : Kd.C k30 w A0 l0.length l0) (hc0 : l0.length ≤ c0) (h : lambrequinlaw20_CfgSteps.f k l0 a1 a2 = some r) :
  Calls Try.prog 4 #[.slice A0 l0.length c0, .int .i64 a1, .int .i64 a2] w fun e w' => e = .returned (.bool r) ∧ Below w.heap.size w w' := by
 have hu30 := Try.underlying30
 have HR0 := Aside0.mk hr0
 have HC0 := Aside0.mk hc0
 clear hr0 hc0
 have HB := Aside0.mk (Below.refl w.heap.size w)
 have H : ((lambrequinlaw20_shown.f k).bind fun t101 => (if (l0.length : Int) > 25 then (lambrequinlaw20_CfgSteps.j0 k l0 a1 a2 t101 true) else (if a1 < 0 then (lambrequinlaw20_CfgSteps.j0 k l0 a1 a2 t101 true) else (if a1 ≥ (l0.length : Int) then (lambrequinlaw20_CfgSteps.j0 k l0 a1 a2 t101 true) else (if a2 < 0 then (lambrequinlaw20_CfgSteps.j0 k l0 a1 a2 t101 true) else (lambrequinlaw20_CfgSteps.j0 k l0 a1 a2 t101 (decide (a2 ≥ (l0.length : Int))))))))) = some r := h
 clear h
 replace H := Option.bind_eq_some_iff.mp H
 obtain ⟨t101, A40, H⟩ := H
 replace H : (if (l0.length : Int) > 25 then (lambrequinlaw20_CfgSteps.j0 k l0 a1 a2 t101 true) else (if a1 < 0 then (lambrequinlaw20_CfgSteps.j0 k l0 a1 a2 t101 true) else (if a1 ≥ (l0.length : Int) then (lambrequinlaw20_CfgSteps.j0 k l0 a1 a2 t101 true) else (if a2 < 0 then (lambrequinlaw20_CfgSteps.j0 k l0 a1 a2 t101 true) else (lambrequinlaw20_CfgSteps.j0 k l0 a1 a2 t101 (decide (a2 ≥ (l0.length : Int)))))))) = some r := H
 have A4 := Aside0.mk A40
 clear A40
 have HC5 := Aside0.mk H
 clear H
 go_enter Try.func4, Try.ntmps4
 go_upto_region 2 with (first | ((with_reducible refine gate_callee (f := 17) rfl ?_); refine goesL_ (some 21) rfl rfl Try.func17 (by kernel_rfl) rfl #[] rfl (by (try simp only [List.map_toArray, List.map_cons, List.map_nil]); first | done | rfl | (simp only [List.length_drop, List.length_take]; rfl)) ?_; (with_reducible refine (lambrequinlaw20_shown.calls k  t101 _ A4.out).mono ?_); rintro e w6 ⟨rfl, hb⟩; refine ⟨_, rfl, ?_⟩; have n0_ := Aside0.mk (below_step (by repeat (first | (with_reducible first | exact HB.out | apply below_alloc | apply pw_below_drewN | apply below_drew1) | exact HB.out)) hb); clear HB; have HB := n0_; clear n0_; (try clear hb); (try clear hb2); (try clear hk); (try clear hi)))
 (try simp only [Act.put, List.setIfInBounds_toArray, List.set_cons_zero, List.set_cons_succ])
 go_cut [44] (fun v44 wc => ∃ (kq : Nat) (x44_4 : Bool), v44 = .bool x44_4 ∧ Aside0 (lambrequinlaw20_CfgSteps.j0 kq l0 a1 a2 t101 x44_4 = some r) ∧ Aside0 (kq ≤ k) ∧ Aside0 (Below w.heap.size w wc))
 case first =>
  have H := HC5.out
  clear HC5
  by_cases c7 : (l0.length : Int) > 25
  ·rw [if_pos c7] at H
   have c7b0 : decide (25 < (l0.length : Int)) = true := decide_eq_true c7
   have c7b1 : decide (25 < l0.length) = true := decide_eq_true (by omega)
   clear c7
   (first | rw [c7b0] | (simp only [i64_w, i32_w]; rw [c7b0]) | skip)
   have H' := Aside0.mk H
   clear H
   go_wp2
   go_meet
   case rel => exact ⟨_, (true), (by first | rfl | (simp; done) | (simp [*]; done)), H', ⟨by first | omega | exact Nat.le_refl _⟩, ⟨by repeat (first | (with_reducible first | exact HB.out | apply below_alloc | apply pw_below_drewN | apply below_drew1) | exact HB.out)⟩⟩
  ·rw [if_neg c7] at H
   have c7b0 : decide (25 < (l0.length : Int)) = false := decide_eq_false c7
   have c7b1 : decide (25 < l0.length) = false := decide_eq_false (by omega)
   clear c7
   (first | rw [c7b0] | (simp only [i64_w, i32_w]; rw [c7b0]) | skip)
   by_cases c8 : a1 < 0
   ·rw [if_pos c8] at H
    have c8b0 : decide (a1 < 0) = true := decide_eq_true c8
    clear c8
    have H' := Aside0.mk H
    clear H
    go_wp2
    go_meet
    case rel => exact ⟨_, (true), (by first | rfl | (simp; done) | (simp [*]; done)), H', ⟨by first | omega | exact Nat.le_refl _⟩, ⟨by repeat (first | (with_reducible first | exact HB.out | apply below_alloc | apply pw_below_drewN | apply below_drew1) | exact HB.out)⟩⟩
   ·rw [if_neg c8] at H
    have c8b0 : decide (a1 < 0) = false := decide_eq_false c8
    clear c8
    by_cases c9 : a1 ≥ (l0.length : Int)
    ·rw [if_pos c9] at H
     have c9b0 : decide ((l0.length : Int) ≤ a1) = true := decide_eq_true c9
     clear c9
     have H' := Aside0.mk H
     clear H
     go_wp2
     go_meet
     case rel => exact ⟨_, (true), (by first | rfl | (simp; done) | (simp [*]; done)), H', ⟨by first | omega | exact Nat.le_refl _⟩, ⟨by repeat (first | (with_reducible first | exact HB.out | apply below_alloc | apply pw_below_drewN | apply below_drew1) | exact HB.out)⟩⟩
    ·rw [if_neg c9] at H
     have c9b0 : decide ((l0.length : Int) ≤ a1) = false := decide_eq_false c9
     clear c9
     by_cases c10 : a2 < 0
     ·rw [if_pos c10] at H
      have c10b0 : decide (a2 < 0) = true := decide_eq_true c10
      clear c10
      have H' := Aside0.mk H
      clear H
      go_wp2
      go_meet
      case rel => exact ⟨_, (true), (by first | rfl | (simp; done) | (simp [*]; done)), H', ⟨by first | omega | exact Nat.le_refl _⟩, ⟨by repeat (first | (with_reducible first | exact HB.out | apply below_alloc | apply pw_below_drewN | apply below_drew1) | exact HB.out)⟩⟩
     ·rw [if_neg c10] at H
      have c10b0 : decide (a2 < 0) = false := decide_eq_false c10
      clear c10
      have H' := Aside0.mk H
      clear H
      go_wp2
      go_meet
      case rel => exact ⟨_, (decide (a2 ≥ (l0.length : Int))), (by first | rfl | (simp; done) | (simp [*]; done)), H', ⟨by first | omega | exact Nat.le_refl _⟩, ⟨by repeat (first | (with_reducible first | exact HB.out | apply below_alloc | apply pw_below_drewN | apply below_drew1) | exact HB.out)⟩⟩
 case rest =>
  clear HC5
  try clear c1
  try clear p2
  try clear c4
  try clear c7
  try clear c7b0
  try clear c7b1
  try clear c8
  try clear c8b0
  try clear c9
  try clear c9b0
  try clear c10
  try clear c10b0
  obtain ⟨kq, x44_4, rfl, HA, HJ4, HB⟩ := hcut
  cases kq with
  | zero => exact absurd HA.out (by simp [lambrequinlaw20_CfgSteps.j0])
  | succ kj4 =>
   have H := HA.out
   clear HA
   simp only [lambrequinlaw20_CfgSteps.j0] at H
   by_cases c11 : x44_4 = true
   ·subst c11
    have H1 : (some t101) = some r := by rw [if_pos rfl] at H; exact H
    clear H
    have H := H1
    clear H1
    obtain rfl := Option.some.inj H
    go_wp2
    go_ret
    exact ⟨by first | rfl | (simp [errW_none, errW_some] <;> rfl) | (simp [*, errW_none, errW_some] <;> rfl), by repeat (first | (with_reducible first | exact HB.out | apply below_alloc | apply pw_below_drewN | apply below_drew1) | exact HB.out)⟩
   ·replace c11 := Bool.eq_false_iff.mpr c11
    subst c11
    have H1 : (if 0 ≤ a1 then (if a1 < (l0.length : Int) then ((cfg_Def.f ((rd_T30 l0 a1).kind) ((rd_T30 l0 a1).x) ((rd_T30 l0 a1).y) ((rd_T30 l0 a1).z) ((rd_T30 l0 a1).op) ((rd_T30 l0 a1).n) ((rd_T30 l0 a1).a) ((rd_T30 l0 a1).b)).bind fun bt103 => (if bt103.2 = true then ((cfg_Next.f l0 a1).bind fun t106 => (lambrequinlaw20_CfgSteps.l0 kj4 l0 a1 a2 t101 bt103.1 t106 0)) else (if t101 = true then ((cfg_Reaches.f kj4 l0 a2 bt103.1 a1).bind fun t105 => (some (!t105))) else (some false)))) else (none)) else (none)) = some r := by rw [if_neg (show ¬ (false = true) by decide)] at H; exact H
    clear H
    have H := H1
    clear H1
    by_cases c12 : 0 ≤ a1
    ·rw [if_pos c12] at H
     have c12b0 : decide (0 ≤ a1) = true := decide_eq_true c12
     clear c12
     by_cases c13 : a1 < (l0.length : Int)
     ·rw [if_pos c13] at H
      have c13b0 : decide (a1 < (l0.length : Int)) = true := decide_eq_true c13
      clear c13
      replace H := Option.bind_eq_some_iff.mp H
      obtain ⟨⟨t103, t104⟩, A140, H⟩ := H
      replace H : (if t104 = true then ((cfg_Next.f l0 a1).bind fun t106 => (lambrequinlaw20_CfgSteps.l0 kj4 l0 a1 a2 t101 t103 t106 0)) else (if t101 = true then ((cfg_Reaches.f kj4 l0 a2 t103 a1).bind fun t105 => (some (!t105))) else (some false))) = some r := H
      have A14 := Aside0.mk A140
      clear A140
      by_cases c15 : t104 = true
      ·subst c15
       have H1 : ((cfg_Next.f l0 a1).bind fun t106 => (lambrequinlaw20_CfgSteps.l0 kj4 l0 a1 a2 t101 t103 t106 0)) = some r := by rw [if_pos rfl] at H; exact H
       clear H
       have H := H1
       clear H1
       replace H := Option.bind_eq_some_iff.mp H
       obtain ⟨t106, A160, H⟩ := H
       replace H : (lambrequinlaw20_CfgSteps.l0 kj4 l0 a1 a2 t101 t103 t106 0) = some r := H
       have A16 := Aside0.mk A160
       clear A160
       have H' := Aside0.mk H
       clear H
       have p102 : 0 ≤ (a1 : Int) := of_decide_eq_true (by first | (with_reducible assumption) | assumption)
       have q102 : a1 < (l0.length : Int) := of_decide_eq_true (by first | (with_reducible assumption) | assumption)
       obtain ⟨ad102, e102, hx102_0, hx102_1, hx102_2, hx102_3, hx102_4, hx102_5, hx102_6, hx102_7⟩ := at_T30 HR0.out a1 p102 q102
       cases e102
       replace hx102_0 := (HB.out.cell (blt_ hx102_0)).trans hx102_0
       replace hx102_1 := (HB.out.cell (blt_ hx102_1)).trans hx102_1
       replace hx102_2 := (HB.out.cell (blt_ hx102_2)).trans hx102_2
       replace hx102_3 := (HB.out.cell (blt_ hx102_3)).trans hx102_3
       replace hx102_4 := (HB.out.cell (blt_ hx102_4)).trans hx102_4
       replace hx102_5 := (HB.out.cell (blt_ hx102_5)).trans hx102_5
       replace hx102_6 := (HB.out.cell (blt_ hx102_6)).trans hx102_6
       replace hx102_7 := (HB.out.cell (blt_ hx102_7)).trans hx102_7
       replace p102 := eq_true p102
       replace q102 := eq_true q102
       go_wp2_with (first | ((with_reducible refine gate_callee (f := 20) rfl ?_); refine goesL_ (some 51) rfl rfl Try.func20 (by kernel_rfl) rfl #[.agg #[.int .i64 ((rd_T30 l0 a1).kind), .string ((rd_T30 l0 a1).x), .string ((rd_T30 l0 a1).y), .string ((rd_T30 l0 a1).z), .string ((rd_T30 l0 a1).op), .int .i64 ((rd_T30 l0 a1).n), .int .i64 ((rd_T30 l0 a1).a), .int .i64 ((rd_T30 l0 a1).b)]] rfl (by (try simp only [List.map_toArray, List.map_cons, List.map_nil]); first | done | rfl | (simp only [List.length_drop, List.length_take]; rfl)) ?_; (with_reducible refine (cfg_Def.calls ((rd_T30 l0 a1).kind) ((rd_T30 l0 a1).x) ((rd_T30 l0 a1).y) ((rd_T30 l0 a1).z) ((rd_T30 l0 a1).op) ((rd_T30 l0 a1).n) ((rd_T30 l0 a1).a) ((rd_T30 l0 a1).b) t103 true _ A14.out).mono ?_); rintro e w17 ⟨rfl, hb⟩; refine ⟨_, rfl, ?_⟩; have n0_ := Aside0.mk (below_step (by repeat (first | (with_reducible first | exact HB.out | apply below_alloc | apply pw_below_drewN | apply below_drew1) | exact HB.out)) hb); clear HB; have HB := n0_; clear n0_; (try clear hb); (try clear hb2); (try clear hk); (try clear hi)) | ((with_reducible refine gate_callee (f := 19) rfl ?_); refine goesL_ (some 67) rfl rfl Try.func19 (by kernel_rfl) rfl #[.slice (some ad102) l0.length c0, .int .i64 a1] rfl (by (try simp only [List.map_toArray, List.map_cons, List.map_nil]); first | done | rfl | (simp only [List.length_drop, List.length_take]; rfl)) ?_; (with_reducible refine (cfg_Next.calls _ _ l0 a1 t106 _ ?side1 ?side2 A16.out).mono ?_); (case side1 => repeat (first | exact (Kd.C_below HR0.out HB.out) | (with_reducible refine Kd.C_alloc ?_ _) | (with_reducible refine Kd.C_drewN ?_ _) | (with_reducible refine Kd.C_drew ?_))); (case side2 => exact HC0.out); rintro e w18 ⟨v107, rfl, ho0, hb⟩; refine ⟨_, rfl, ?_⟩; have n0_ := Aside0.mk (Kd.R_lower ho0 (below_size (by repeat (first | (with_reducible first | exact HB.out | apply below_alloc | apply pw_below_drewN | apply below_drew1) | exact HB.out)))); have n1_ := Aside0.mk (below_step (by repeat (first | (with_reducible first | exact HB.out | apply below_alloc | apply pw_below_drewN | apply below_drew1) | exact HB.out)) hb); clear HB; have HO108 := n0_; have HB := n1_; clear n0_ n1_; (try clear hb); (try clear hb2); (try clear hk); (try clear hi); (try clear ho0)))
       go_loopg [11] kj4 (fun kq v11 w' => ∃ (x11_2 : Int), v11 = .int .i64 x11_2 ∧ Aside0 (lambrequinlaw20_CfgSteps.l0 kq l0 a1 a2 t101 t103 t106 x11_2 = some r) ∧ Aside0 (kq ≤ kj4) ∧ Aside0 (Kd.R (Kd.int .i64) 3 w' w.heap.size (fun _ => True) v107 t106) ∧ Aside0 (Below w.heap.size w w'))
       case atStart => exact ⟨(0), (by first | rfl | (simp; done) | (simp [*]; done)), H', ⟨Nat.le_refl _⟩, ⟨by (with_reducible repeat (first | apply Kd.R_alloc | apply Kd.R_drewN | apply Kd.R_drew)); exact HO108.out⟩, ⟨by repeat (first | (with_reducible first | exact HB.out | apply below_alloc | apply pw_below_drewN | apply below_drew1) | exact HB.out)⟩⟩
       case round =>
        clear H'
        try clear c1
        try clear p1
        try clear q1
        try clear hx1
        try clear c2
        try clear p2
        try clear c4
        try clear c7
        try clear c7b0
        try clear c7b1
        try clear c8
        try clear c8b0
        try clear c9
        try clear c9b0
        try clear c10
        try clear c10b0
        try clear p10
        try clear q10
        try clear hx10
        try clear c11
        try clear c12
        try clear c12b0
        try clear c13
        try clear c13b0
        try clear c15
        try clear c17
        try clear hx102_0
        try clear hx102_1
        try clear hx102_2
        try clear hx102_3
        try clear hx102_4
        try clear hx102_5
        try clear hx102_6
        try clear hx102_7
        try clear p102
        try clear p2
        try clear q102
        obtain ⟨x11_2, rfl, HA, HK2, HO_10, HB⟩ := hrel
        cases gk with
        | zero => exact absurd HA.out (by simp [lambrequinlaw20_CfgSteps.l0])
        | succ k2 =>
         have H := HA.out
         clear HA
         simp only [lambrequinlaw20_CfgSteps.l0] at H
         by_cases c19 : x11_2 < (t106.length : Int)
         ·rw [if_pos c19] at H
          have c19b0 : decide (x11_2 < (t106.length : Int)) = true := decide_eq_true c19
          clear c19
          by_cases c20 : 0 ≤ x11_2
          ·rw [if_pos c20] at H
           have c20b0 : decide (0 ≤ x11_2) = true := decide_eq_true c20
           clear c20
           replace H := Option.bind_eq_some_iff.mp H
           obtain ⟨t110, A210, H⟩ := H
           replace H : (if t110 = true then (lambrequinlaw20_CfgSteps.l0 k2 l0 a1 a2 t101 t103 t106 (wrap64 (x11_2 + 1))) else (some false)) = some r := H
           have A21 := Aside0.mk A210
           clear A210
           by_cases c22 : t110 = true
           ·subst c22
            have H1 : (lambrequinlaw20_CfgSteps.l0 k2 l0 a1 a2 t101 t103 t106 (wrap64 (x11_2 + 1))) = some r := by rw [if_pos rfl] at H; exact H
            clear H
            have H := H1
            clear H1
            have H' := Aside0.mk H
            clear H
            obtain ⟨Ao23, co23, eo23⟩ := Kd.R_slice HO_10.out
            subst eo23
            have p109 : 0 ≤ (x11_2 : Int) := of_decide_eq_true (by first | (with_reducible assumption) | assumption)
            have q109 : x11_2 < (t106.length : Int) := of_decide_eq_true (by first | (with_reducible assumption) | assumption)
            obtain ⟨ad109, e109, hx109_0⟩ := Kd.at_int (Kd.R_reads' HO_10.out).2.2 x11_2 p109 q109
            cases e109
            replace p109 := eq_true p109
            replace q109 := eq_true q109
            go_wp2_with (first | ((with_reducible refine gate_callee (f := 23) rfl ?_); refine goesL_ (some 81) rfl rfl Try.func23 (by kernel_rfl) rfl #[.slice (some ad102) l0.length c0, .int .i64 (rd t106 x11_2), .string t103, .int .i64 a1] rfl (by (try simp only [List.map_toArray, List.map_cons, List.map_nil]); first | done | rfl | (simp only [List.length_drop, List.length_take]; rfl)) ?_; (with_reducible refine (cfg_Reaches.calls k2 _ _ l0 (rd t106 x11_2) t103 a1 true _ ?side1 ?side2 A21.out).mono ?_); (case side1 => repeat (first | exact (Kd.C_below HR0.out HB.out) | (with_reducible refine Kd.C_alloc ?_ _) | (with_reducible refine Kd.C_drewN ?_ _) | (with_reducible refine Kd.C_drew ?_))); (case side2 => exact HC0.out); rintro e w24 ⟨rfl, hb⟩; refine ⟨_, rfl, ?_⟩; have n0_ := Aside0.mk (Kd.R_below (by (with_reducible repeat (first | apply Kd.R_alloc | apply Kd.R_drewN | apply Kd.R_drew)); exact HO_10.out) hb); have n1_ := Aside0.mk (below_step (by repeat (first | (with_reducible first | exact HB.out | apply below_alloc | apply pw_below_drewN | apply below_drew1) | exact HB.out)) hb); clear HO_10; clear HB; have HO_10 := n0_; have HB := n1_; clear n0_ n1_; (try clear hb); (try clear hb2); (try clear hk); (try clear hi)))
            go_roundg k2
            case measure => have := HJ4.out; have := HK2.out; omega
            case rel => exact ⟨(wrap64 (x11_2 + 1)), (by first | rfl | (simp; done) | (simp [*]; done)), H', ⟨by have := HJ4.out; have := HK2.out; omega⟩, ⟨by (with_reducible repeat (first | apply Kd.R_alloc | apply Kd.R_drewN | apply Kd.R_drew)); exact HO_10.out⟩, ⟨by repeat (first | (with_reducible first | exact HB.out | apply below_alloc | apply pw_below_drewN | apply below_drew1) | exact HB.out)⟩⟩
           ·replace c22 := Bool.eq_false_iff.mpr c22
            subst c22
            have H1 : (some false) = some r := by rw [if_neg (show ¬ (false = true) by decide)] at H; exact H
            clear H
            have H := H1
            clear H1
            obtain rfl := Option.some.inj H
            obtain ⟨Ao25, co25, eo25⟩ := Kd.R_slice HO_10.out
            subst eo25
            have p109 : 0 ≤ (x11_2 : Int) := of_decide_eq_true (by first | (with_reducible assumption) | assumption)
            have q109 : x11_2 < (t106.length : Int) := of_decide_eq_true (by first | (with_reducible assumption) | assumption)
            obtain ⟨ad109, e109, hx109_0⟩ := Kd.at_int (Kd.R_reads' HO_10.out).2.2 x11_2 p109 q109
            cases e109
            replace p109 := eq_true p109
            replace q109 := eq_true q109
            go_wp2_with (first | ((with_reducible refine gate_callee (f := 23) rfl ?_); refine goesL_ (some 81) rfl rfl Try.func23 (by kernel_rfl) rfl #[.slice (some ad102) l0.length c0, .int .i64 (rd t106 x11_2), .string t103, .int .i64 a1] rfl (by (try simp only [List.map_toArray, List.map_cons, List.map_nil]); first | done | rfl | (simp only [List.length_drop, List.length_take]; rfl)) ?_; (with_reducible refine (cfg_Reaches.calls k2 _ _ l0 (rd t106 x11_2) t103 a1 false _ ?side1 ?side2 A21.out).mono ?_); (case side1 => repeat (first | exact (Kd.C_below HR0.out HB.out) | (with_reducible refine Kd.C_alloc ?_ _) | (with_reducible refine Kd.C_drewN ?_ _) | (with_reducible refine Kd.C_drew ?_))); (case side2 => exact HC0.out); rintro e w26 ⟨rfl, hb⟩; refine ⟨_, rfl, ?_⟩; have n0_ := Aside0.mk (Kd.R_below (by (with_reducible repeat (first | apply Kd.R_alloc | apply Kd.R_drewN | apply Kd.R_drew)); exact HO_10.out) hb); have n1_ := Aside0.mk (below_step (by repeat (first | (with_reducible first | exact HB.out | apply below_alloc | apply pw_below_drewN | apply below_drew1) | exact HB.out)) hb); clear HO_10; clear HB; have HO_10 := n0_; have HB := n1_; clear n0_ n1_; (try clear hb); (try clear hb2); (try clear hk); (try clear hi)))
            go_ret
            exact ⟨by first | rfl | (simp [errW_none, errW_some] <;> rfl) | (simp [*, errW_none, errW_some] <;> rfl), by repeat (first | (with_reducible first | exact HB.out | apply below_alloc | apply pw_below_drewN | apply below_drew1) | exact HB.out)⟩
          ·rw [if_neg c20] at H
           exact absurd H (by simp)
         ·rw [if_neg c19] at H
          have c19b0 : decide (x11_2 < (t106.length : Int)) = false := decide_eq_false c19
          clear c19
          by_cases c27 : 0 ≤ a2
          ·rw [if_pos c27] at H
           have c27b0 : decide (0 ≤ a2) = true := decide_eq_true c27
           clear c27
           by_cases c28 : a2 < (l0.length : Int)
           ·rw [if_pos c28] at H
            have c28b0 : decide (a2 < (l0.length : Int)) = true := decide_eq_true c28
            clear c28
            replace H := Option.bind_eq_some_iff.mp H
            obtain ⟨⟨t112, t113⟩, A290, H⟩ := H
            replace H : ((cfg_Reaches.f k2 l0 a2 t103 a1).bind fun t114 => (if t114 = true then (if t113 = true then (lambrequinlaw20_CfgSteps.j2 k2 l0 a1 a2 t101 t103 (t112.toList != t103.toList)) else (lambrequinlaw20_CfgSteps.j2 k2 l0 a1 a2 t101 t103 true)) else (lambrequinlaw20_CfgSteps.j2 k2 l0 a1 a2 t101 t103 false))) = some r := H
            have A29 := Aside0.mk A290
            clear A290
            have HC30 := Aside0.mk H
            clear H
            obtain ⟨Ao31, co31, eo31⟩ := Kd.R_slice HO_10.out
            subst eo31
            have p111 : 0 ≤ (a2 : Int) := of_decide_eq_true (by first | (with_reducible assumption) | assumption)
            have q111 : a2 < (l0.length : Int) := of_decide_eq_true (by first | (with_reducible assumption) | assumption)
            obtain ⟨ad111, e111, hx111_0, hx111_1, hx111_2, hx111_3, hx111_4, hx111_5, hx111_6, hx111_7⟩ := at_T30 HR0.out a2 p111 q111
            obtain rfl : ad102 = ad111 := (by injection e111)
            replace hx111_0 := (HB.out.cell (blt_ hx111_0)).trans hx111_0
            replace hx111_1 := (HB.out.cell (blt_ hx111_1)).trans hx111_1
            replace hx111_2 := (HB.out.cell (blt_ hx111_2)).trans hx111_2
            replace hx111_3 := (HB.out.cell (blt_ hx111_3)).trans hx111_3
            replace hx111_4 := (HB.out.cell (blt_ hx111_4)).trans hx111_4
            replace hx111_5 := (HB.out.cell (blt_ hx111_5)).trans hx111_5
            replace hx111_6 := (HB.out.cell (blt_ hx111_6)).trans hx111_6
            replace hx111_7 := (HB.out.cell (blt_ hx111_7)).trans hx111_7
            replace p111 := eq_true p111
            replace q111 := eq_true q111
            go_upto_region 14 with (first | ((with_reducible refine gate_callee (f := 20) rfl ?_); refine goesL_ (some 88) rfl rfl Try.func20 (by kernel_rfl) rfl #[.agg #[.int .i64 ((rd_T30 l0 a2).kind), .string ((rd_T30 l0 a2).x), .string ((rd_T30 l0 a2).y), .string ((rd_T30 l0 a2).z), .string ((rd_T30 l0 a2).op), .int .i64 ((rd_T30 l0 a2).n), .int .i64 ((rd_T30 l0 a2).a), .int .i64 ((rd_T30 l0 a2).b)]] rfl (by (try simp only [List.map_toArray, List.map_cons, List.map_nil]); first | done | rfl | (simp only [List.length_drop, List.length_take]; rfl)) ?_; (with_reducible refine (cfg_Def.calls ((rd_T30 l0 a2).kind) ((rd_T30 l0 a2).x) ((rd_T30 l0 a2).y) ((rd_T30 l0 a2).z) ((rd_T30 l0 a2).op) ((rd_T30 l0 a2).n) ((rd_T30 l0 a2).a) ((rd_T30 l0 a2).b) t112 t113 _ A29.out).mono ?_); rintro e w32 ⟨rfl, hb⟩; refine ⟨_, rfl, ?_⟩; have n0_ := Aside0.mk (Kd.R_below (by (with_reducible repeat (first | apply Kd.R_alloc | apply Kd.R_drewN | apply Kd.R_drew)); exact HO_10.out) hb); have n1_ := Aside0.mk (below_step (by repeat (first | (with_reducible first | exact HB.out | apply below_alloc | apply pw_below_drewN | apply below_drew1) | exact HB.out)) hb); clear HO_10; clear HB; have HO_10 := n0_; have HB := n1_; clear n0_ n1_; (try clear hb); (try clear hb2); (try clear hk); (try clear hi)))
            (try simp only [Act.put, List.setIfInBounds_toArray, List.set_cons_zero, List.set_cons_succ])
            go_cut [104] (fun v104 wc => ∃ (kq : Nat) (x104_29 : Bool), v104 = .bool x104_29 ∧ Aside0 (lambrequinlaw20_CfgSteps.j2 kq l0 a1 a2 t101 t103 x104_29 = some r) ∧ Aside0 (kq ≤ k2) ∧ Aside0 (Below w.heap.size w wc))
            case first =>
             have H := HC30.out
             clear HC30
             replace H := Option.bind_eq_some_iff.mp H
             obtain ⟨t114, A330, H⟩ := H
             replace H : (if t114 = true then (if t113 = true then (lambrequinlaw20_CfgSteps.j2 k2 l0 a1 a2 t101 t103 (t112.toList != t103.toList)) else (lambrequinlaw20_CfgSteps.j2 k2 l0 a1 a2 t101 t103 true)) else (lambrequinlaw20_CfgSteps.j2 k2 l0 a1 a2 t101 t103 false)) = some r := H
             have A33 := Aside0.mk A330
             clear A330
             by_cases c34 : t114 = true
             ·subst c34
              have H1 : (if t113 = true then (lambrequinlaw20_CfgSteps.j2 k2 l0 a1 a2 t101 t103 (t112.toList != t103.toList)) else (lambrequinlaw20_CfgSteps.j2 k2 l0 a1 a2 t101 t103 true)) = some r := by rw [if_pos rfl] at H; exact H
              clear H
              have H := H1
              clear H1
              by_cases c35 : t113 = true
              ·subst c35
               have H1 : (lambrequinlaw20_CfgSteps.j2 k2 l0 a1 a2 t101 t103 (t112.toList != t103.toList)) = some r := by rw [if_pos rfl] at H; exact H
               clear H
               have H := H1
               clear H1
               have H' := Aside0.mk H
               clear H
               go_wp2_with (first | ((with_reducible refine gate_callee (f := 23) rfl ?_); refine goesL_ (some 95) rfl rfl Try.func23 (by kernel_rfl) rfl #[.slice (some ad102) l0.length c0, .int .i64 a2, .string t103, .int .i64 a1] rfl (by (try simp only [List.map_toArray, List.map_cons, List.map_nil]); first | done | rfl | (simp only [List.length_drop, List.length_take]; rfl)) ?_; (with_reducible refine (cfg_Reaches.calls k2 _ _ l0 a2 t103 a1 true _ ?side1 ?side2 A33.out).mono ?_); (case side1 => repeat (first | exact (Kd.C_below HR0.out HB.out) | (with_reducible refine Kd.C_alloc ?_ _) | (with_reducible refine Kd.C_drewN ?_ _) | (with_reducible refine Kd.C_drew ?_))); (case side2 => exact HC0.out); rintro e w36 ⟨rfl, hb⟩; refine ⟨_, rfl, ?_⟩; have n0_ := Aside0.mk (Kd.R_below (by (with_reducible repeat (first | apply Kd.R_alloc | apply Kd.R_drewN | apply Kd.R_drew)); exact HO_10.out) hb); have n1_ := Aside0.mk (below_step (by repeat (first | (with_reducible first | exact HB.out | apply below_alloc | apply pw_below_drewN | apply below_drew1) | exact HB.out)) hb); clear HO_10; clear HB; have HO_10 := n0_; have HB := n1_; clear n0_ n1_; (try clear hb); (try clear hb2); (try clear hk); (try clear hi)))
               go_meet
               case rel => exact ⟨_, ((t112.toList != t103.toList)), (by first | rfl | (simp; done) | (simp [*]; done)), H', ⟨by have := HJ4.out; have := HK2.out; first | omega | exact Nat.le_refl _⟩, ⟨by repeat (first | (with_reducible first | exact HB.out | apply below_alloc | apply pw_below_drewN | apply below_drew1) | exact HB.out)⟩⟩
              ·replace c35 := Bool.eq_false_iff.mpr c35
               subst c35
               have H1 : (lambrequinlaw20_CfgSteps.j2 k2 l0 a1 a2 t101 t103 true) = some r := by rw [if_neg (show ¬ (false = true) by decide)] at H; exact H
               clear H
               have H := H1
               clear H1
               have H' := Aside0.mk H
               clear H
               go_wp2_with (first | ((with_reducible refine gate_callee (f := 23) rfl ?_); refine goesL_ (some 95) rfl rfl Try.func23 (by kernel_rfl) rfl #[.slice (some ad102) l0.length c0, .int .i64 a2, .string t103, .int .i64 a1] rfl (by (try simp only [List.map_toArray, List.map_cons, List.map_nil]); first | done | rfl | (simp only [List.length_drop, List.length_take]; rfl)) ?_; (with_reducible refine (cfg_Reaches.calls k2 _ _ l0 a2 t103 a1 true _ ?side1 ?side2 A33.out).mono ?_); (case side1 => repeat (first | exact (Kd.C_below HR0.out HB.out) | (with_reducible refine Kd.C_alloc ?_ _) | (with_reducible refine Kd.C_drewN ?_ _) | (with_reducible refine Kd.C_drew ?_))); (case side2 => exact HC0.out); rintro e w37 ⟨rfl, hb⟩; refine ⟨_, rfl, ?_⟩; have n0_ := Aside0.mk (Kd.R_below (by (with_reducible repeat (first | apply Kd.R_alloc | apply Kd.R_drewN | apply Kd.R_drew)); exact HO_10.out) hb); have n1_ := Aside0.mk (below_step (by repeat (first | (with_reducible first | exact HB.out | apply below_alloc | apply pw_below_drewN | apply below_drew1) | exact HB.out)) hb); clear HO_10; clear HB; have HO_10 := n0_; have HB := n1_; clear n0_ n1_; (try clear hb); (try clear hb2); (try clear hk); (try clear hi)))
               go_meet
               case rel => exact ⟨_, (true), (by first | rfl | (simp; done) | (simp [*]; done)), H', ⟨by have := HJ4.out; have := HK2.out; first | omega | exact Nat.le_refl _⟩, ⟨by repeat (first | (with_reducible first | exact HB.out | apply below_alloc | apply pw_below_drewN | apply below_drew1) | exact HB.out)⟩⟩
             ·replace c34 := Bool.eq_false_iff.mpr c34
              subst c34
              have H1 : (lambrequinlaw20_CfgSteps.j2 k2 l0 a1 a2 t101 t103 false) = some r := by rw [if_neg (show ¬ (false = true) by decide)] at H; exact H
              clear H
              have H := H1
              clear H1
              have H' := Aside0.mk H
              clear H
              go_wp2_with (first | ((with_reducible refine gate_callee (f := 23) rfl ?_); refine goesL_ (some 95) rfl rfl Try.func23 (by kernel_rfl) rfl #[.slice (some ad102) l0.length c0, .int .i64 a2, .string t103, .int .i64 a1] rfl (by (try simp only [List.map_toArray, List.map_cons, List.map_nil]); first | done | rfl | (simp only [List.length_drop, List.length_take]; rfl)) ?_; (with_reducible refine (cfg_Reaches.calls k2 _ _ l0 a2 t103 a1 false _ ?side1 ?side2 A33.out).mono ?_); (case side1 => repeat (first | exact (Kd.C_below HR0.out HB.out) | (with_reducible refine Kd.C_alloc ?_ _) | (with_reducible refine Kd.C_drewN ?_ _) | (with_reducible refine Kd.C_drew ?_))); (case side2 => exact HC0.out); rintro e w38 ⟨rfl, hb⟩; refine ⟨_, rfl, ?_⟩; have n0_ := Aside0.mk (Kd.R_below (by (with_reducible repeat (first | apply Kd.R_alloc | apply Kd.R_drewN | apply Kd.R_drew)); exact HO_10.out) hb); have n1_ := Aside0.mk (below_step (by repeat (first | (with_reducible first | exact HB.out | apply below_alloc | apply pw_below_drewN | apply below_drew1) | exact HB.out)) hb); clear HO_10; clear HB; have HO_10 := n0_; have HB := n1_; clear n0_ n1_; (try clear hb); (try clear hb2); (try clear hk); (try clear hi)))
              go_meet
              case rel => exact ⟨_, (false), (by first | rfl | (simp; done) | (simp [*]; done)), H', ⟨by have := HJ4.out; have := HK2.out; first | omega | exact Nat.le_refl _⟩, ⟨by repeat (first | (with_reducible first | exact HB.out | apply below_alloc | apply pw_below_drewN | apply below_drew1) | exact HB.out)⟩⟩
            case rest =>
             clear HC30
             try clear c1
             try clear p1
             try clear q1
             try clear hx1
             try clear c2
             try clear p2
             try clear c3
             try clear c4
             try clear p6
             try clear c7
             try clear c7b0
             try clear c7b1
             try clear c8
             try clear c8b0
             try clear c9
             try clear c9b0
             try clear c10
             try clear c10b0
             try clear p10
             try clear q10
             try clear hx10
             try clear c11
             try clear p11
             try clear q11
             try clear hx11
             try clear c12
             try clear c12b0
             try clear c13
             try clear c13b0
             try clear c15
             try clear c17
             try clear c19
             try clear c19b0
             try clear c20
             try clear c20b0
             try clear c22
             try clear c23
             try clear c27
             try clear c27b0
             try clear c28
             try clear c28b0
             try clear c34
             try clear c35
             try clear hx102_0
             try clear hx102_1
             try clear hx102_2
             try clear hx102_3
             try clear hx102_4
             try clear hx102_5
             try clear hx102_6
             try clear hx102_7
             try clear hx109_0
             try clear hx111_0
             try clear hx111_1
             try clear hx111_2
             try clear hx111_3
             try clear hx111_4
             try clear hx111_5
             try clear hx111_6
             try clear hx111_7
             try clear p1
             try clear p10
             try clear p102
             try clear p109
             try clear p111
             try clear p2
             try clear q1
             try clear q10
             try clear q102
             try clear q109
             try clear q111
             obtain ⟨kq, x104_29, rfl, HA, HJ29, HB⟩ := hcut
             cases kq with
             | zero => exact absurd HA.out (by simp [lambrequinlaw20_CfgSteps.j2])
             | succ kj29 =>
              have H := HA.out
              clear HA
              simp only [lambrequinlaw20_CfgSteps.j2] at H
              have HC39 := Aside0.mk H
              clear H
              go_upto_if 104 with (fail)
              go_cut [] (fun wc => ∃ (kq : Nat), Aside0 (lambrequinlaw20_CfgSteps.j4 kq l0 a1 a2 t101 t103 = some r) ∧ Aside0 (kq ≤ kj29) ∧ Aside0 (Below w.heap.size w wc))
              case first =>
               have H := HC39.out
               clear HC39
               by_cases c40 : x104_29 = true
               ·subst c40
                have H1 : ((cfg_Next.f l0 a2).bind fun t115 => (lambrequinlaw20_CfgSteps.l1 kj29 l0 a1 a2 t101 t103 t115 0)) = some r := by rw [if_pos rfl] at H; exact H
                clear H
                have H := H1
                clear H1
                replace H := Option.bind_eq_some_iff.mp H
                obtain ⟨t115, A410, H⟩ := H
                replace H : (lambrequinlaw20_CfgSteps.l1 kj29 l0 a1 a2 t101 t103 t115 0) = some r := H
                have A41 := Aside0.mk A410
                clear A410
                have H' := Aside0.mk H
                clear H
                go_wp2_with (first | ((with_reducible refine gate_callee (f := 19) rfl ?_); refine goesL_ (some 107) rfl rfl Try.func19 (by kernel_rfl) rfl #[.slice (some ad102) l0.length c0, .int .i64 a2] rfl (by (try simp only [List.map_toArray, List.map_cons, List.map_nil]); first | done | rfl | (simp only [List.length_drop, List.length_take]; rfl)) ?_; (with_reducible refine (cfg_Next.calls _ _ l0 a2 t115 _ ?side1 ?side2 A41.out).mono ?_); (case side1 => repeat (first | exact (Kd.C_below HR0.out HB.out) | (with_reducible refine Kd.C_alloc ?_ _) | (with_reducible refine Kd.C_drewN ?_ _) | (with_reducible refine Kd.C_drew ?_))); (case side2 => exact HC0.out); rintro e w42 ⟨v116, rfl, ho0, hb⟩; refine ⟨_, rfl, ?_⟩; have n0_ := Aside0.mk (Kd.R_lower ho0 (below_size (by repeat (first | (with_reducible first | exact HB.out | apply below_alloc | apply pw_below_drewN | apply below_drew1) | exact HB.out)))); have n1_ := Aside0.mk (below_step (by repeat (first | (with_reducible first | exact HB.out | apply below_alloc | apply pw_below_drewN | apply below_drew1) | exact HB.out)) hb); clear HB; have HO117 := n0_; have HB := n1_; clear n0_ n1_; (try clear hb); (try clear hb2); (try clear hk); (try clear hi); (try clear ho0)))
                go_loopg [15] kj29 (fun kq v15 w' => ∃ (x15_4 : Int), v15 = .int .i64 x15_4 ∧ Aside0 (lambrequinlaw20_CfgSteps.l1 kq l0 a1 a2 t101 t103 t115 x15_4 = some r) ∧ Aside0 (kq ≤ kj29) ∧ Aside0 (Kd.R (Kd.int .i64) 3 w' w.heap.size (fun _ => True) v116 t115) ∧ Aside0 (Below w.heap.size w w'))
                case atStart => exact ⟨(0), (by first | rfl | (simp; done) | (simp [*]; done)), H', ⟨Nat.le_refl _⟩, ⟨by (with_reducible repeat (first | apply Kd.R_alloc | apply Kd.R_drewN | apply Kd.R_drew)); exact HO117.out⟩, ⟨by repeat (first | (with_reducible first | exact HB.out | apply below_alloc | apply pw_below_drewN | apply below_drew1) | exact HB.out)⟩⟩
                case round =>
                 clear H'
                 try clear c1
                 try clear p1
                 try clear q1
                 try clear hx1
                 try clear c2
                 try clear p2
                 try clear c3
                 try clear c4
                 try clear p6
                 try clear c7
                 try clear c7b0
                 try clear c7b1
                 try clear c8
                 try clear c8b0
                 try clear c9
                 try clear c9b0
                 try clear c10
                 try clear c10b0
                 try clear p10
                 try clear q10
                 try clear hx10
                 try clear c11
                 try clear p11
                 try clear q11
                 try clear hx11
                 try clear c12
                 try clear c12b0
                 try clear c13
                 try clear c13b0
                 try clear c15
                 try clear c17
                 try clear c19
                 try clear c19b0
                 try clear c20
                 try clear c20b0
                 try clear c22
                 try clear c23
                 try clear c27
                 try clear c27b0
                 try clear c28
                 try clear c28b0
                 try clear c34
                 try clear c35
                 try clear c40
                 try clear hx102_0
                 try clear hx102_1
                 try clear hx102_2
                 try clear hx102_3
                 try clear hx102_4
                 try clear hx102_5
                 try clear hx102_6
                 try clear hx102_7
                 try clear hx109_0
                 try clear hx111_0
                 try clear hx111_1
                 try clear hx111_2
                 try clear hx111_3
                 try clear hx111_4
                 try clear hx111_5
                 try clear hx111_6
                 try clear hx111_7
                 try clear p1
                 try clear p10
                 try clear p102
                 try clear p109
                 try clear p11
                 try clear p111
                 try clear p2
                 try clear p6
                 try clear q1
                 try clear q10
                 try clear q102
                 try clear q109
                 try clear q11
                 try clear q111
                 obtain ⟨x15_4, rfl, HA, HK4, HO_14, HB⟩ := hrel
                 cases gk with
                 | zero => exact absurd HA.out (by simp [lambrequinlaw20_CfgSteps.l1])
                 | succ k4 =>
                  have H := HA.out
                  clear HA
                  simp only [lambrequinlaw20_CfgSteps.l1] at H
                  by_cases c43 : x15_4 < (t115.length : Int)
                  ·rw [if_pos c43] at H
                   have c43b0 : decide (x15_4 < (t115.length : Int)) = true := decide_eq_true c43
                   clear c43
                   (first | rw [c43b0] | (simp only [i64_w, i32_w]; rw [c43b0]) | skip)
                   by_cases c44 : 0 ≤ x15_4
                   ·rw [if_pos c44] at H
                    have c44b0 : decide (0 ≤ x15_4) = true := decide_eq_true c44
                    clear c44
                    replace H := Option.bind_eq_some_iff.mp H
                    obtain ⟨t119, A450, H⟩ := H
                    replace H : (if t119 = true then (lambrequinlaw20_CfgSteps.l1 k4 l0 a1 a2 t101 t103 t115 (wrap64 (x15_4 + 1))) else (some false)) = some r := H
                    have A45 := Aside0.mk A450
                    clear A450
                    by_cases c46 : t119 = true
                    ·subst c46
                     have H1 : (lambrequinlaw20_CfgSteps.l1 k4 l0 a1 a2 t101 t103 t115 (wrap64 (x15_4 + 1))) = some r := by rw [if_pos rfl] at H; exact H
                     clear H
                     have H := H1
                     clear H1
                     have H' := Aside0.mk H
                     clear H
                     obtain ⟨Ao47, co47, eo47⟩ := Kd.R_slice HO_14.out
                     subst eo47
                     have p118 : 0 ≤ (x15_4 : Int) := of_decide_eq_true (by first | (with_reducible assumption) | assumption)
                     have q118 : x15_4 < (t115.length : Int) := of_decide_eq_true (by first | (with_reducible assumption) | assumption)
                     obtain ⟨ad118, e118, hx118_0⟩ := Kd.at_int (Kd.R_reads' HO_14.out).2.2 x15_4 p118 q118
                     cases e118
                     replace p118 := eq_true p118
                     replace q118 := eq_true q118
                     go_wp2_with (first | ((with_reducible refine gate_callee (f := 23) rfl ?_); refine goesL_ (some 121) rfl rfl Try.func23 (by kernel_rfl) rfl #[.slice (some ad102) l0.length c0, .int .i64 (rd t115 x15_4), .string t103, .int .i64 a1] rfl (by (try simp only [List.map_toArray, List.map_cons, List.map_nil]); first | done | rfl | (simp only [List.length_drop, List.length_take]; rfl)) ?_; (with_reducible refine (cfg_Reaches.calls k4 _ _ l0 (rd t115 x15_4) t103 a1 true _ ?side1 ?side2 A45.out).mono ?_); (case side1 => repeat (first | exact (Kd.C_below HR0.out HB.out) | (with_reducible refine Kd.C_alloc ?_ _) | (with_reducible refine Kd.C_drewN ?_ _) | (with_reducible refine Kd.C_drew ?_))); (case side2 => exact HC0.out); rintro e w48 ⟨rfl, hb⟩; refine ⟨_, rfl, ?_⟩; have n0_ := Aside0.mk (Kd.R_below (by (with_reducible repeat (first | apply Kd.R_alloc | apply Kd.R_drewN | apply Kd.R_drew)); exact HO_14.out) hb); have n1_ := Aside0.mk (below_step (by repeat (first | (with_reducible first | exact HB.out | apply below_alloc | apply pw_below_drewN | apply below_drew1) | exact HB.out)) hb); clear HO_14; clear HB; have HO_14 := n0_; have HB := n1_; clear n0_ n1_; (try clear hb); (try clear hb2); (try clear hk); (try clear hi)))
                     go_roundg k4
                     case measure => have := HJ4.out; have := HK2.out; have := HJ29.out; have := HK4.out; omega
                     case rel => exact ⟨(wrap64 (x15_4 + 1)), (by first | rfl | (simp; done) | (simp [*]; done)), H', ⟨by have := HJ4.out; have := HK2.out; have := HJ29.out; have := HK4.out; omega⟩, ⟨by (with_reducible repeat (first | apply Kd.R_alloc | apply Kd.R_drewN | apply Kd.R_drew)); exact HO_14.out⟩, ⟨by repeat (first | (with_reducible first | exact HB.out | apply below_alloc | apply pw_below_drewN | apply below_drew1) | exact HB.out)⟩⟩
                    ·replace c46 := Bool.eq_false_iff.mpr c46
                     subst c46
                     have H1 : (some false) = some r := by rw [if_neg (show ¬ (false = true) by decide)] at H; exact H
                     clear H
                     have H := H1
                     clear H1
                     obtain rfl := Option.some.inj H
                     obtain ⟨Ao49, co49, eo49⟩ := Kd.R_slice HO_14.out
                     subst eo49
                     have p118 : 0 ≤ (x15_4 : Int) := of_decide_eq_true (by first | (with_reducible assumption) | assumption)
                     have q118 : x15_4 < (t115.length : Int) := of_decide_eq_true (by first | (with_reducible assumption) | assumption)
                     obtain ⟨ad118, e118, hx118_0⟩ := Kd.at_int (Kd.R_reads' HO_14.out).2.2 x15_4 p118 q118
                     cases e118
                     replace p118 := eq_true p118
                     replace q118 := eq_true q118
                     go_wp2_with (first | ((with_reducible refine gate_callee (f := 23) rfl ?_); refine goesL_ (some 121) rfl rfl Try.func23 (by kernel_rfl) rfl #[.slice (some ad102) l0.length c0, .int .i64 (rd t115 x15_4), .string t103, .int .i64 a1] rfl (by (try simp only [List.map_toArray, List.map_cons, List.map_nil]); first | done | rfl | (simp only [List.length_drop, List.length_take]; rfl)) ?_; (with_reducible refine (cfg_Reaches.calls k4 _ _ l0 (rd t115 x15_4) t103 a1 false _ ?side1 ?side2 A45.out).mono ?_); (case side1 => repeat (first | exact (Kd.C_below HR0.out HB.out) | (with_reducible refine Kd.C_alloc ?_ _) | (with_reducible refine Kd.C_drewN ?_ _) | (with_reducible refine Kd.C_drew ?_))); (case side2 => exact HC0.out); rintro e w50 ⟨rfl, hb⟩; refine ⟨_, rfl, ?_⟩; have n0_ := Aside0.mk (Kd.R_below (by (with_reducible repeat (first | apply Kd.R_alloc | apply Kd.R_drewN | apply Kd.R_drew)); exact HO_14.out) hb); have n1_ := Aside0.mk (below_step (by repeat (first | (with_reducible first | exact HB.out | apply below_alloc | apply pw_below_drewN | apply below_drew1) | exact HB.out)) hb); clear HO_14; clear HB; have HO_14 := n0_; have HB := n1_; clear n0_ n1_; (try clear hb); (try clear hb2); (try clear hk); (try clear hi)))
                     go_ret
                     exact ⟨by first | rfl | (simp [errW_none, errW_some] <;> rfl) | (simp [*, errW_none, errW_some] <;> rfl), by repeat (first | (with_reducible first | exact HB.out | apply below_alloc | apply pw_below_drewN | apply below_drew1) | exact HB.out)⟩
                   ·rw [if_neg c44] at H
                    exact absurd H (by simp)
                  ·rw [if_neg c43] at H
                   have c43b0 : decide (x15_4 < (t115.length : Int)) = false := decide_eq_false c43
                   clear c43
                   (first | rw [c43b0] | (simp only [i64_w, i32_w]; rw [c43b0]) | skip)
                   have H' := Aside0.mk H
                   clear H
                   obtain ⟨Ao51, co51, eo51⟩ := Kd.R_slice HO_14.out
                   subst eo51
                   go_wp2
                   go_meet
                   case rel => exact ⟨_, H', ⟨by have := HJ4.out; have := HK2.out; have := HJ29.out; have := HK4.out; first | omega | exact Nat.le_refl _⟩, ⟨by repeat (first | (with_reducible first | exact HB.out | apply below_alloc | apply pw_below_drewN | apply below_drew1) | exact HB.out)⟩⟩
               ·replace c40 := Bool.eq_false_iff.mpr c40
                subst c40
                have H1 : (lambrequinlaw20_CfgSteps.j4 kj29 l0 a1 a2 t101 t103) = some r := by rw [if_neg (show ¬ (false = true) by decide)] at H; exact H
                clear H
                have H := H1
                clear H1
                have H' := Aside0.mk H
                clear H
                go_wp2
                go_meet
                case rel => exact ⟨_, H', ⟨by have := HJ4.out; have := HK2.out; have := HJ29.out; first | omega | exact Nat.le_refl _⟩, ⟨by repeat (first | (with_reducible first | exact HB.out | apply below_alloc | apply pw_below_drewN | apply below_drew1) | exact HB.out)⟩⟩
              case rest =>
               clear HC39
               try clear c1
               try clear p1
               try clear q1
               try clear hx1
               try clear c2
               try clear p2
               try clear c3
               try clear c4
               try clear p6
               try clear c7
               try clear c7b0
               try clear c7b1
               try clear c8
               try clear c8b0
               try clear c9
               try clear c9b0
               try clear c10
               try clear c10b0
               try clear p10
               try clear q10
               try clear hx10
               try clear c11
               try clear p11
               try clear q11
               try clear hx11
               try clear c12
               try clear c12b0
               try clear c13
               try clear c13b0
               try clear c15
               try clear c17
               try clear c19
               try clear c19b0
               try clear c20
               try clear c20b0
               try clear c22
               try clear c23
               try clear c27
               try clear c27b0
               try clear c28
               try clear c28b0
               try clear c34
               try clear c35
               try clear c40
               try clear c43
               try clear c43b0
               try clear c44
               try clear c44b0
               try clear c46
               try clear hx102_0
               try clear hx102_1
               try clear hx102_2
               try clear hx102_3
               try clear hx102_4
               try clear hx102_5
               try clear hx102_6
               try clear hx102_7
               try clear hx109_0
               try clear hx111_0
               try clear hx111_1
               try clear hx111_2
               try clear hx111_3
               try clear hx111_4
               try clear hx111_5
               try clear hx111_6
               try clear hx111_7
               try clear hx118_0
               try clear p1
               try clear p10
               try clear p102
               try clear p109
               try clear p11
               try clear p111
               try clear p118
               try clear p2
               try clear p6
               try clear q1
               try clear q10
               try clear q102
               try clear q109
               try clear q11
               try clear q111
               try clear q118
               obtain ⟨kq, HA, HJ38, HB⟩ := hcut
               cases kq with
               | zero => exact absurd HA.out (by simp [lambrequinlaw20_CfgSteps.j4])
               | succ kj38 =>
                have H := HA.out
                clear HA
                simp only [lambrequinlaw20_CfgSteps.j4] at H
                replace H := Option.bind_eq_some_iff.mp H
                obtain ⟨t120, A520, H⟩ := H
                replace H : (lambrequinlaw20_CfgSteps.l2 kj38 l0 a1 a2 t101 t103 t120 false 0) = some r := H
                have A52 := Aside0.mk A520
                clear A520
                have H' := Aside0.mk H
                clear H
                go_wp2_with (first | ((with_reducible refine gate_callee (f := 24) rfl ?_); refine goesL_ (some 125) rfl rfl Try.func24 (by kernel_rfl) rfl #[.slice (some ad102) l0.length c0, .int .i64 a2] rfl (by (try simp only [List.map_toArray, List.map_cons, List.map_nil]); first | done | rfl | (simp only [List.length_drop, List.length_take]; rfl)) ?_; (with_reducible refine (cfg_Prev.calls kj38 _ _ l0 a2 t120 _ ?side1 ?side2 A52.out).mono ?_); (case side1 => repeat (first | exact (Kd.C_below HR0.out HB.out) | (with_reducible refine Kd.C_alloc ?_ _) | (with_reducible refine Kd.C_drewN ?_ _) | (with_reducible refine Kd.C_drew ?_))); (case side2 => exact HC0.out); rintro e w53 ⟨v121, rfl, ho0, hb⟩; refine ⟨_, rfl, ?_⟩; have n0_ := Aside0.mk (Kd.R_lower ho0 (below_size (by repeat (first | (with_reducible first | exact HB.out | apply below_alloc | apply pw_below_drewN | apply below_drew1) | exact HB.out)))); have n1_ := Aside0.mk (below_step (by repeat (first | (with_reducible first | exact HB.out | apply below_alloc | apply pw_below_drewN | apply below_drew1) | exact HB.out)) hb); clear HB; have HO122 := n0_; have HB := n1_; clear n0_ n1_; (try clear hb); (try clear hb2); (try clear hk); (try clear hi); (try clear ho0)))
                go_loopg [17, 18] kj38 (fun kq v17 v18 w' => ∃ (x17_5 : Bool) (x18_5 : Int), v17 = .bool x17_5 ∧ v18 = .int .i64 x18_5 ∧ Aside0 (lambrequinlaw20_CfgSteps.l2 kq l0 a1 a2 t101 t103 t120 x17_5 x18_5 = some r) ∧ Aside0 (kq ≤ kj38) ∧ Aside0 (Kd.R (Kd.int .i64) 3 w' w.heap.size (fun _ => True) v121 t120) ∧ Aside0 (Below w.heap.size w w'))
                case atStart => exact ⟨(false), (0), (by first | rfl | (simp; done) | (simp [*]; done)), (by first | rfl | (simp; done) | (simp [*]; done)), H', ⟨Nat.le_refl _⟩, ⟨by (with_reducible repeat (first | apply Kd.R_alloc | apply Kd.R_drewN | apply Kd.R_drew)); exact HO122.out⟩, ⟨by repeat (first | (with_reducible first | exact HB.out | apply below_alloc | apply pw_below_drewN | apply below_drew1) | exact HB.out)⟩⟩
                case round =>
                 clear H'
                 try clear c1
                 try clear p1
                 try clear q1
                 try clear hx1
                 try clear c2
                 try clear p2
                 try clear c3
                 try clear c4
                 try clear p6
                 try clear c7
                 try clear c7b0
                 try clear c7b1
                 try clear c8
                 try clear c8b0
                 try clear c9
                 try clear c9b0
                 try clear c10
                 try clear c10b0
                 try clear p10
                 try clear q10
                 try clear hx10
                 try clear c11
                 try clear p11
                 try clear q11
                 try clear hx11
                 try clear c12
                 try clear c12b0
                 try clear c13
                 try clear c13b0
                 try clear c15
                 try clear c17
                 try clear c19
                 try clear c19b0
                 try clear c20
                 try clear c20b0
                 try clear c22
                 try clear c23
                 try clear c24
                 try clear c27
                 try clear c27b0
                 try clear c28
                 try clear c28b0
                 try clear c34
                 try clear c35
                 try clear c40
                 try clear c43
                 try clear c43b0
                 try clear c44
                 try clear c44b0
                 try clear c46
                 try clear hx102_0
                 try clear hx102_1
                 try clear hx102_2
                 try clear hx102_3
                 try clear hx102_4
                 try clear hx102_5
                 try clear hx102_6
                 try clear hx102_7
                 try clear hx109_0
                 try clear hx111_0
                 try clear hx111_1
                 try clear hx111_2
                 try clear hx111_3
                 try clear hx111_4
                 try clear hx111_5
                 try clear hx111_6
                 try clear hx111_7
                 try clear hx118_0
                 try clear p1
                 try clear p10
                 try clear p102
                 try clear p109
                 try clear p11
                 try clear p111
                 try clear p118
                 try clear p2
                 try clear p6
                 try clear q1
                 try clear q10
                 try clear q102
                 try clear q109
                 try clear q11
                 try clear q111
                 try clear q118
                 obtain ⟨x17_5, x18_5, rfl, rfl, HA, HK5, HO_16, HB⟩ := hrel
                 cases gk with
                 | zero => exact absurd HA.out (by simp [lambrequinlaw20_CfgSteps.l2])
                 | succ k5 =>
                  have H := HA.out
                  clear HA
                  simp only [lambrequinlaw20_CfgSteps.l2] at H
                  by_cases c54 : x18_5 < (t120.length : Int)
                  ·rw [if_pos c54] at H
                   have c54b0 : decide (x18_5 < (t120.length : Int)) = true := decide_eq_true c54
                   clear c54
                   by_cases c55 : 0 ≤ x18_5
                   ·rw [if_pos c55] at H
                    have c55b0 : decide (0 ≤ x18_5) = true := decide_eq_true c55
                    clear c55
                    by_cases c56 : 0 ≤ (rd t120 x18_5)
                    ·rw [if_pos c56] at H
                     have c56b0 : decide (0 ≤ (rd t120 x18_5)) = true := decide_eq_true c56
                     clear c56
                     by_cases c57 : (rd t120 x18_5) < (l0.length : Int)
                     ·rw [if_pos c57] at H
                      have c57b0 : decide ((rd t120 x18_5) < (l0.length : Int)) = true := decide_eq_true c57
                      clear c57
                      replace H := Option.bind_eq_some_iff.mp H
                      obtain ⟨⟨t125, t126⟩, A580, H⟩ := H
                      replace H : (if x17_5 = true then (lambrequinlaw20_CfgSteps.l2 k5 l0 a1 a2 t101 t103 t120 true (wrap64 (x18_5 + 1))) else (if (rd t120 x18_5) = a1 then (lambrequinlaw20_CfgSteps.l2 k5 l0 a1 a2 t101 t103 t120 true (wrap64 (x18_5 + 1))) else ((cfg_Reaches.f k5 l0 (rd t120 x18_5) t103 a1).bind fun t129 => (if t129 = true then (if t126 = true then (lambrequinlaw20_CfgSteps.l2 k5 l0 a1 a2 t101 t103 t120 (t125.toList != t103.toList) (wrap64 (x18_5 + 1))) else (lambrequinlaw20_CfgSteps.l2 k5 l0 a1 a2 t101 t103 t120 true (wrap64 (x18_5 + 1)))) else (lambrequinlaw20_CfgSteps.l2 k5 l0 a1 a2 t101 t103 t120 false (wrap64 (x18_5 + 1))))))) = some r := H
                      have A58 := Aside0.mk A580
                      clear A580
                      by_cases c59 : x17_5 = true
                      ·subst c59
                       have H1 : (lambrequinlaw20_CfgSteps.l2 k5 l0 a1 a2 t101 t103 t120 true (wrap64 (x18_5 + 1))) = some r := by rw [if_pos rfl] at H; exact H
                       clear H
                       have H := H1
                       clear H1
                       have H' := Aside0.mk H
                       clear H
                       obtain ⟨Ao60, co60, eo60⟩ := Kd.R_slice HO_16.out
                       subst eo60
                       have p123 : 0 ≤ (x18_5 : Int) := of_decide_eq_true (by first | (with_reducible assumption) | assumption)
                       have q123 : x18_5 < (t120.length : Int) := of_decide_eq_true (by first | (with_reducible assumption) | assumption)
                       obtain ⟨ad123, e123, hx123_0⟩ := Kd.at_int (Kd.R_reads' HO_16.out).2.2 x18_5 p123 q123
                       cases e123
                       replace p123 := eq_true p123
                       replace q123 := eq_true q123
                       have p124 : 0 ≤ ((rd t120 x18_5) : Int) := of_decide_eq_true (by first | (with_reducible assumption) | assumption)
                       have q124 : (rd t120 x18_5) < (l0.length : Int) := of_decide_eq_true (by first | (with_reducible assumption) | assumption)
                       obtain ⟨ad124, e124, hx124_0, hx124_1, hx124_2, hx124_3, hx124_4, hx124_5, hx124_6, hx124_7⟩ := at_T30 HR0.out (rd t120 x18_5) p124 q124
                       obtain rfl : ad102 = ad124 := (by injection e124)
                       replace hx124_0 := (HB.out.cell (blt_ hx124_0)).trans hx124_0
                       replace hx124_1 := (HB.out.cell (blt_ hx124_1)).trans hx124_1
                       replace hx124_2 := (HB.out.cell (blt_ hx124_2)).trans hx124_2
                       replace hx124_3 := (HB.out.cell (blt_ hx124_3)).trans hx124_3
                       replace hx124_4 := (HB.out.cell (blt_ hx124_4)).trans hx124_4
                       replace hx124_5 := (HB.out.cell (blt_ hx124_5)).trans hx124_5
                       replace hx124_6 := (HB.out.cell (blt_ hx124_6)).trans hx124_6
                       replace hx124_7 := (HB.out.cell (blt_ hx124_7)).trans hx124_7
                       replace p124 := eq_true p124
                       replace q124 := eq_true q124
                       go_wp2_with (first | ((with_reducible refine gate_callee (f := 20) rfl ?_); refine goesL_ (some 140) rfl rfl Try.func20 (by kernel_rfl) rfl #[.agg #[.int .i64 ((rd_T30 l0 (rd t120 x18_5)).kind), .string ((rd_T30 l0 (rd t120 x18_5)).x), .string ((rd_T30 l0 (rd t120 x18_5)).y), .string ((rd_T30 l0 (rd t120 x18_5)).z), .string ((rd_T30 l0 (rd t120 x18_5)).op), .int .i64 ((rd_T30 l0 (rd t120 x18_5)).n), .int .i64 ((rd_T30 l0 (rd t120 x18_5)).a), .int .i64 ((rd_T30 l0 (rd t120 x18_5)).b)]] rfl (by (try simp only [List.map_toArray, List.map_cons, List.map_nil]); first | done | rfl | (simp only [List.length_drop, List.length_take]; rfl)) ?_; (with_reducible refine (cfg_Def.calls ((rd_T30 l0 (rd t120 x18_5)).kind) ((rd_T30 l0 (rd t120 x18_5)).x) ((rd_T30 l0 (rd t120 x18_5)).y) ((rd_T30 l0 (rd t120 x18_5)).z) ((rd_T30 l0 (rd t120 x18_5)).op) ((rd_T30 l0 (rd t120 x18_5)).n) ((rd_T30 l0 (rd t120 x18_5)).a) ((rd_T30 l0 (rd t120 x18_5)).b) t125 t126 _ A58.out).mono ?_); rintro e w61 ⟨rfl, hb⟩; refine ⟨_, rfl, ?_⟩; have n0_ := Aside0.mk (Kd.R_below (by (with_reducible repeat (first | apply Kd.R_alloc | apply Kd.R_drewN | apply Kd.R_drew)); exact HO_16.out) hb); have n1_ := Aside0.mk (below_step (by repeat (first | (with_reducible first | exact HB.out | apply below_alloc | apply pw_below_drewN | apply below_drew1) | exact HB.out)) hb); clear HO_16; clear HB; have HO_16 := n0_; have HB := n1_; clear n0_ n1_; (try clear hb); (try clear hb2); (try clear hk); (try clear hi)))
                       go_roundg k5
                       case measure => have := HJ4.out; have := HK2.out; have := HJ29.out; have := HJ38.out; have := HK5.out; omega
                       case rel => exact ⟨(true), (wrap64 (x18_5 + 1)), (by first | rfl | (simp; done) | (simp [*]; done)), (by first | rfl | (simp; done) | (simp [*]; done)), H', ⟨by have := HJ4.out; have := HK2.out; have := HJ29.out; have := HJ38.out; have := HK5.out; omega⟩, ⟨by (with_reducible repeat (first | apply Kd.R_alloc | apply Kd.R_drewN | apply Kd.R_drew)); exact HO_16.out⟩, ⟨by repeat (first | (with_reducible first | exact HB.out | apply below_alloc | apply pw_below_drewN | apply below_drew1) | exact HB.out)⟩⟩
                      ·replace c59 := Bool.eq_false_iff.mpr c59
                       subst c59
                       have H1 : (if (rd t120 x18_5) = a1 then (lambrequinlaw20_CfgSteps.l2 k5 l0 a1 a2 t101 t103 t120 true (wrap64 (x18_5 + 1))) else ((cfg_Reaches.f k5 l0 (rd t120 x18_5) t103 a1).bind fun t129 => (if t129 = true then (if t126 = true then (lambrequinlaw20_CfgSteps.l2 k5 l0 a1 a2 t101 t103 t120 (t125.toList != t103.toList) (wrap64 (x18_5 + 1))) else (lambrequinlaw20_CfgSteps.l2 k5 l0 a1 a2 t101 t103 t120 true (wrap64 (x18_5 + 1)))) else (lambrequinlaw20_CfgSteps.l2 k5 l0 a1 a2 t101 t103 t120 false (wrap64 (x18_5 + 1)))))) = some r := by rw [if_neg (show ¬ (false = true) by decide)] at H; exact H
                       clear H
                       have H := H1
                       clear H1
                       by_cases c62 : (rd t120 x18_5) = a1
                       ·rw [if_pos c62] at H
                        have c62b0 : ((rd t120 x18_5) == a1) = true := beq_iff_eq.mpr c62
                        have c62b1 : ((rd t120 x18_5) != a1) = false := bne_eq_false_iff_eq.mpr c62
                        clear c62
                        have H' := Aside0.mk H
                        clear H
                        obtain ⟨Ao63, co63, eo63⟩ := Kd.R_slice HO_16.out
                        subst eo63
                        have p123 : 0 ≤ (x18_5 : Int) := of_decide_eq_true (by first | (with_reducible assumption) | assumption)
                        have q123 : x18_5 < (t120.length : Int) := of_decide_eq_true (by first | (with_reducible assumption) | assumption)
                        obtain ⟨ad123, e123, hx123_0⟩ := Kd.at_int (Kd.R_reads' HO_16.out).2.2 x18_5 p123 q123
                        cases e123
                        replace p123 := eq_true p123
                        replace q123 := eq_true q123
                        have p124 : 0 ≤ ((rd t120 x18_5) : Int) := of_decide_eq_true (by first | (with_reducible assumption) | assumption)
                        have q124 : (rd t120 x18_5) < (l0.length : Int) := of_decide_eq_true (by first | (with_reducible assumption) | assumption)
                        obtain ⟨ad124, e124, hx124_0, hx124_1, hx124_2, hx124_3, hx124_4, hx124_5, hx124_6, hx124_7⟩ := at_T30 HR0.out (rd t120 x18_5) p124 q124
                        obtain rfl : ad102 = ad124 := (by injection e124)
                        replace hx124_0 := (HB.out.cell (blt_ hx124_0)).trans hx124_0
                        replace hx124_1 := (HB.out.cell (blt_ hx124_1)).trans hx124_1
                        replace hx124_2 := (HB.out.cell (blt_ hx124_2)).trans hx124_2
                        replace hx124_3 := (HB.out.cell (blt_ hx124_3)).trans hx124_3
                        replace hx124_4 := (HB.out.cell (blt_ hx124_4)).trans hx124_4
                        replace hx124_5 := (HB.out.cell (blt_ hx124_5)).trans hx124_5
                        replace hx124_6 := (HB.out.cell (blt_ hx124_6)).trans hx124_6
                        replace hx124_7 := (HB.out.cell (blt_ hx124_7)).trans hx124_7
                        replace p124 := eq_true p124
                        replace q124 := eq_true q124
                        go_wp2_with (first | ((with_reducible refine gate_callee (f := 20) rfl ?_); refine goesL_ (some 140) rfl rfl Try.func20 (by kernel_rfl) rfl #[.agg #[.int .i64 ((rd_T30 l0 (rd t120 x18_5)).kind), .string ((rd_T30 l0 (rd t120 x18_5)).x), .string ((rd_T30 l0 (rd t120 x18_5)).y), .string ((rd_T30 l0 (rd t120 x18_5)).z), .string ((rd_T30 l0 (rd t120 x18_5)).op), .int .i64 ((rd_T30 l0 (rd t120 x18_5)).n), .int .i64 ((rd_T30 l0 (rd t120 x18_5)).a), .int .i64 ((rd_T30 l0 (rd t120 x18_5)).b)]] rfl (by (try simp only [List.map_toArray, List.map_cons, List.map_nil]); first | done | rfl | (simp only [List.length_drop, List.length_take]; rfl)) ?_; (with_reducible refine (cfg_Def.calls ((rd_T30 l0 (rd t120 x18_5)).kind) ((rd_T30 l0 (rd t120 x18_5)).x) ((rd_T30 l0 (rd t120 x18_5)).y) ((rd_T30 l0 (rd t120 x18_5)).z) ((rd_T30 l0 (rd t120 x18_5)).op) ((rd_T30 l0 (rd t120 x18_5)).n) ((rd_T30 l0 (rd t120 x18_5)).a) ((rd_T30 l0 (rd t120 x18_5)).b) t125 t126 _ A58.out).mono ?_); rintro e w64 ⟨rfl, hb⟩; refine ⟨_, rfl, ?_⟩; have n0_ := Aside0.mk (Kd.R_below (by (with_reducible repeat (first | apply Kd.R_alloc | apply Kd.R_drewN | apply Kd.R_drew)); exact HO_16.out) hb); have n1_ := Aside0.mk (below_step (by repeat (first | (with_reducible first | exact HB.out | apply below_alloc | apply pw_below_drewN | apply below_drew1) | exact HB.out)) hb); clear HO_16; clear HB; have HO_16 := n0_; have HB := n1_; clear n0_ n1_; (try clear hb); (try clear hb2); (try clear hk); (try clear hi); have p127 : 0 ≤ (x18_5 : Int) := of_decide_eq_true (by first | (with_reducible assumption) | assumption); have q127 : x18_5 < (t120.length : Int) := of_decide_eq_true (by first | (with_reducible assumption) | assumption); obtain ⟨ad127, e127, hx127_0⟩ := Kd.at_int (Kd.R_reads' HO_16.out).2.2 x18_5 p127 q127; obtain rfl : ad123 = ad127 := (by injection e127); replace p127 := eq_true p127; replace q127 := eq_true q127))
                        go_roundg k5
                        case measure => have := HJ4.out; have := HK2.out; have := HJ29.out; have := HJ38.out; have := HK5.out; omega
                        case rel => exact ⟨(true), (wrap64 (x18_5 + 1)), (by first | rfl | (simp; done) | (simp [*]; done)), (by first | rfl | (simp; done) | (simp [*]; done)), H', ⟨by have := HJ4.out; have := HK2.out; have := HJ29.out; have := HJ38.out; have := HK5.out; omega⟩, ⟨by (with_reducible repeat (first | apply Kd.R_alloc | apply Kd.R_drewN | apply Kd.R_drew)); exact HO_16.out⟩, ⟨by repeat (first | (with_reducible first | exact HB.out | apply below_alloc | apply pw_below_drewN | apply below_drew1) | exact HB.out)⟩⟩
                       ·rw [if_neg c62] at H
                        have c62b0 : ((rd t120 x18_5) == a1) = false := beq_eq_false_iff_ne.mpr c62
                        have c62b1 : ((rd t120 x18_5) != a1) = true := bne_iff_ne.mpr c62
                        replace H := Option.bind_eq_some_iff.mp H
                        obtain ⟨t129, A650, H⟩ := H
                        replace H : (if t129 = true then (if t126 = true then (lambrequinlaw20_CfgSteps.l2 k5 l0 a1 a2 t101 t103 t120 (t125.toList != t103.toList) (wrap64 (x18_5 + 1))) else (lambrequinlaw20_CfgSteps.l2 k5 l0 a1 a2 t101 t103 t120 true (wrap64 (x18_5 + 1)))) else (lambrequinlaw20_CfgSteps.l2 k5 l0 a1 a2 t101 t103 t120 false (wrap64 (x18_5 + 1)))) = some r := H
                        have A65 := Aside0.mk A650
                        clear A650
                        by_cases c66 : t129 = true
                        ·subst c66
                         have H1 : (if t126 = true then (lambrequinlaw20_CfgSteps.l2 k5 l0 a1 a2 t101 t103 t120 (t125.toList != t103.toList) (wrap64 (x18_5 + 1))) else (lambrequinlaw20_CfgSteps.l2 k5 l0 a1 a2 t101 t103 t120 true (wrap64 (x18_5 + 1)))) = some r := by rw [if_pos rfl] at H; exact H
                         clear H
                         have H := H1
                         clear H1
                         by_cases c67 : t126 = true
                         ·subst c67
                          have H1 : (lambrequinlaw20_CfgSteps.l2 k5 l0 a1 a2 t101 t103 t120 (t125.toList != t103.toList) (wrap64 (x18_5 + 1))) = some r := by rw [if_pos rfl] at H; exact H
                          clear H
                          have H := H1
                          clear H1
                          have H' := Aside0.mk H
                          clear H
                          obtain ⟨Ao68, co68, eo68⟩ := Kd.R_slice HO_16.out
                          subst eo68
                          have p123 : 0 ≤ (x18_5 : Int) := of_decide_eq_true (by first | (with_reducible assumption) | assumption)
                          have q123 : x18_5 < (t120.length : Int) := of_decide_eq_true (by first | (with_reducible assumption) | assumption)
                          obtain ⟨ad123, e123, hx123_0⟩ := Kd.at_int (Kd.R_reads' HO_16.out).2.2 x18_5 p123 q123
                          cases e123
                          replace p123 := eq_true p123
                          replace q123 := eq_true q123
                          have p124 : 0 ≤ ((rd t120 x18_5) : Int) := of_decide_eq_true (by first | (with_reducible assumption) | assumption)
                          have q124 : (rd t120 x18_5) < (l0.length : Int) := of_decide_eq_true (by first | (with_reducible assumption) | assumption)
                          obtain ⟨ad124, e124, hx124_0, hx124_1, hx124_2, hx124_3, hx124_4, hx124_5, hx124_6, hx124_7⟩ := at_T30 HR0.out (rd t120 x18_5) p124 q124
                          obtain rfl : ad102 = ad124 := (by injection e124)
                          replace hx124_0 := (HB.out.cell (blt_ hx124_0)).trans hx124_0
                          replace hx124_1 := (HB.out.cell (blt_ hx124_1)).trans hx124_1
                          replace hx124_2 := (HB.out.cell (blt_ hx124_2)).trans hx124_2
                          replace hx124_3 := (HB.out.cell (blt_ hx124_3)).trans hx124_3
                          replace hx124_4 := (HB.out.cell (blt_ hx124_4)).trans hx124_4
                          replace hx124_5 := (HB.out.cell (blt_ hx124_5)).trans hx124_5
                          replace hx124_6 := (HB.out.cell (blt_ hx124_6)).trans hx124_6
                          replace hx124_7 := (HB.out.cell (blt_ hx124_7)).trans hx124_7
                          replace p124 := eq_true p124
                          replace q124 := eq_true q124
                          go_wp2_with (first | ((with_reducible refine gate_callee (f := 20) rfl ?_); refine goesL_ (some 140) rfl rfl Try.func20 (by kernel_rfl) rfl #[.agg #[.int .i64 ((rd_T30 l0 (rd t120 x18_5)).kind), .string ((rd_T30 l0 (rd t120 x18_5)).x), .string ((rd_T30 l0 (rd t120 x18_5)).y), .string ((rd_T30 l0 (rd t120 x18_5)).z), .string ((rd_T30 l0 (rd t120 x18_5)).op), .int .i64 ((rd_T30 l0 (rd t120 x18_5)).n), .int .i64 ((rd_T30 l0 (rd t120 x18_5)).a), .int .i64 ((rd_T30 l0 (rd t120 x18_5)).b)]] rfl (by (try simp only [List.map_toArray, List.map_cons, List.map_nil]); first | done | rfl | (simp only [List.length_drop, List.length_take]; rfl)) ?_; (with_reducible refine (cfg_Def.calls ((rd_T30 l0 (rd t120 x18_5)).kind) ((rd_T30 l0 (rd t120 x18_5)).x) ((rd_T30 l0 (rd t120 x18_5)).y) ((rd_T30 l0 (rd t120 x18_5)).z) ((rd_T30 l0 (rd t120 x18_5)).op) ((rd_T30 l0 (rd t120 x18_5)).n) ((rd_T30 l0 (rd t120 x18_5)).a) ((rd_T30 l0 (rd t120 x18_5)).b) t125 true _ A58.out).mono ?_); rintro e w69 ⟨rfl, hb⟩; refine ⟨_, rfl, ?_⟩; have n0_ := Aside0.mk (Kd.R_below (by (with_reducible repeat (first | apply Kd.R_alloc | apply Kd.R_drewN | apply Kd.R_drew)); exact HO_16.out) hb); have n1_ := Aside0.mk (below_step (by repeat (first | (with_reducible first | exact HB.out | apply below_alloc | apply pw_below_drewN | apply below_drew1) | exact HB.out)) hb); clear HO_16; clear HB; have HO_16 := n0_; have HB := n1_; clear n0_ n1_; (try clear hb); (try clear hb2); (try clear hk); (try clear hi); have p127 : 0 ≤ (x18_5 : Int) := of_decide_eq_true (by first | (with_reducible assumption) | assumption); have q127 : x18_5 < (t120.length : Int) := of_decide_eq_true (by first | (with_reducible assumption) | assumption); obtain ⟨ad127, e127, hx127_0⟩ := Kd.at_int (Kd.R_reads' HO_16.out).2.2 x18_5 p127 q127; obtain rfl : ad123 = ad127 := (by injection e127); replace p127 := eq_true p127; replace q127 := eq_true q127; have p128 : 0 ≤ (x18_5 : Int) := of_decide_eq_true (by first | (with_reducible assumption) | assumption); have q128 : x18_5 < (t120.length : Int) := of_decide_eq_true (by first | (with_reducible assumption) | assumption); obtain ⟨ad128, e128, hx128_0⟩ := Kd.at_int (Kd.R_reads' HO_16.out).2.2 x18_5 p128 q128; obtain rfl : ad123 = ad128 := (by injection e128); replace p128 := eq_true p128; replace q128 := eq_true q128) | (go_at_call 23; (with_reducible refine (cfg_Reaches.calls k5 _ _ l0 (rd t120 x18_5) t103 a1 true _ ?side1 ?side2 A65.out).mono ?_); (case side1 => repeat (first | exact (Kd.C_below HR0.out HB.out) | (with_reducible refine Kd.C_alloc ?_ _) | (with_reducible refine Kd.C_drewN ?_ _) | (with_reducible refine Kd.C_drew ?_))); (case side2 => exact HC0.out); rintro e w70 ⟨rfl, hb⟩; have n0_ := Aside0.mk (Kd.R_below (by (with_reducible repeat (first | apply Kd.R_alloc | apply Kd.R_drewN | apply Kd.R_drew)); exact HO_16.out) hb); have n1_ := Aside0.mk (below_step (by repeat (first | (with_reducible first | exact HB.out | apply below_alloc | apply pw_below_drewN | apply below_drew1) | exact HB.out)) hb); clear HO_16; clear HB; have HO_16 := n0_; have HB := n1_; clear n0_ n1_; (try clear hb); (try clear hb2); (try clear hk); (try clear hi)))
                          go_roundg k5
                          case measure => have := HJ4.out; have := HK2.out; have := HJ29.out; have := HJ38.out; have := HK5.out; omega
                          case rel => exact ⟨((t125.toList != t103.toList)), (wrap64 (x18_5 + 1)), (by first | rfl | (simp; done) | (simp [*]; done)), (by first | rfl | (simp; done) | (simp [*]; done)), H', ⟨by have := HJ4.out; have := HK2.out; have := HJ29.out; have := HJ38.out; have := HK5.out; omega⟩, ⟨by (with_reducible repeat (first | apply Kd.R_alloc | apply Kd.R_drewN | apply Kd.R_drew)); exact HO_16.out⟩, ⟨by repeat (first | (with_reducible first | exact HB.out | apply below_alloc | apply pw_below_drewN | apply below_drew1) | exact HB.out)⟩⟩
                         ·replace c67 := Bool.eq_false_iff.mpr c67
                          subst c67
                          have H1 : (lambrequinlaw20_CfgSteps.l2 k5 l0 a1 a2 t101 t103 t120 true (wrap64 (x18_5 + 1))) = some r := by rw [if_neg (show ¬ (false = true) by decide)] at H; exact H
                          clear H
                          have H := H1
                          clear H1
                          have H' := Aside0.mk H
                          clear H
                          obtain ⟨Ao71, co71, eo71⟩ := Kd.R_slice HO_16.out
                          subst eo71
                          have p123 : 0 ≤ (x18_5 : Int) := of_decide_eq_true (by first | (with_reducible assumption) | assumption)
                          have q123 : x18_5 < (t120.length : Int) := of_decide_eq_true (by first | (with_reducible assumption) | assumption)
                          obtain ⟨ad123, e123, hx123_0⟩ := Kd.at_int (Kd.R_reads' HO_16.out).2.2 x18_5 p123 q123
                          cases e123
                          replace p123 := eq_true p123
                          replace q123 := eq_true q123
                          have p124 : 0 ≤ ((rd t120 x18_5) : Int) := of_decide_eq_true (by first | (with_reducible assumption) | assumption)
                          have q124 : (rd t120 x18_5) < (l0.length : Int) := of_decide_eq_true (by first | (with_reducible assumption) | assumption)
                          obtain ⟨ad124, e124, hx124_0, hx124_1, hx124_2, hx124_3, hx124_4, hx124_5, hx124_6, hx124_7⟩ := at_T30 HR0.out (rd t120 x18_5) p124 q124
                          obtain rfl : ad102 = ad124 := (by injection e124)
                          replace hx124_0 := (HB.out.cell (blt_ hx124_0)).trans hx124_0
                          replace hx124_1 := (HB.out.cell (blt_ hx124_1)).trans hx124_1
                          replace hx124_2 := (HB.out.cell (blt_ hx124_2)).trans hx124_2
                          replace hx124_3 := (HB.out.cell (blt_ hx124_3)).trans hx124_3
                          replace hx124_4 := (HB.out.cell (blt_ hx124_4)).trans hx124_4
                          replace hx124_5 := (HB.out.cell (blt_ hx124_5)).trans hx124_5
                          replace hx124_6 := (HB.out.cell (blt_ hx124_6)).trans hx124_6
                          replace hx124_7 := (HB.out.cell (blt_ hx124_7)).trans hx124_7
                          replace p124 := eq_true p124
                          replace q124 := eq_true q124
                          go_wp2_with (first | ((with_reducible refine gate_callee (f := 20) rfl ?_); refine goesL_ (some 140) rfl rfl Try.func20 (by kernel_rfl) rfl #[.agg #[.int .i64 ((rd_T30 l0 (rd t120 x18_5)).kind), .string ((rd_T30 l0 (rd t120 x18_5)).x), .string ((rd_T30 l0 (rd t120 x18_5)).y), .string ((rd_T30 l0 (rd t120 x18_5)).z), .string ((rd_T30 l0 (rd t120 x18_5)).op), .int .i64 ((rd_T30 l0 (rd t120 x18_5)).n), .int .i64 ((rd_T30 l0 (rd t120 x18_5)).a), .int .i64 ((rd_T30 l0 (rd t120 x18_5)).b)]] rfl (by (try simp only [List.map_toArray, List.map_cons, List.map_nil]); first | done | rfl | (simp only [List.length_drop, List.length_take]; rfl)) ?_; (with_reducible refine (cfg_Def.calls ((rd_T30 l0 (rd t120 x18_5)).kind) ((rd_T30 l0 (rd t120 x18_5)).x) ((rd_T30 l0 (rd t120 x18_5)).y) ((rd_T30 l0 (rd t120 x18_5)).z) ((rd_T30 l0 (rd t120 x18_5)).op) ((rd_T30 l0 (rd t120 x18_5)).n) ((rd_T30 l0 (rd t120 x18_5)).a) ((rd_T30 l0 (rd t120 x18_5)).b) t125 false _ A58.out).mono ?_); rintro e w72 ⟨rfl, hb⟩; refine ⟨_, rfl, ?_⟩; have n0_ := Aside0.mk (Kd.R_below (by (with_reducible repeat (first | apply Kd.R_alloc | apply Kd.R_drewN | apply Kd.R_drew)); exact HO_16.out) hb); have n1_ := Aside0.mk (below_step (by repeat (first | (with_reducible first | exact HB.out | apply below_alloc | apply pw_below_drewN | apply below_drew1) | exact HB.out)) hb); clear HO_16; clear HB; have HO_16 := n0_; have HB := n1_; clear n0_ n1_; (try clear hb); (try clear hb2); (try clear hk); (try clear hi); have p127 : 0 ≤ (x18_5 : Int) := of_decide_eq_true (by first | (with_reducible assumption) | assumption); have q127 : x18_5 < (t120.length : Int) := of_decide_eq_true (by first | (with_reducible assumption) | assumption); obtain ⟨ad127, e127, hx127_0⟩ := Kd.at_int (Kd.R_reads' HO_16.out).2.2 x18_5 p127 q127; obtain rfl : ad123 = ad127 := (by injection e127); replace p127 := eq_true p127; replace q127 := eq_true q127; have p128 : 0 ≤ (x18_5 : Int) := of_decide_eq_true (by first | (with_reducible assumption) | assumption); have q128 : x18_5 < (t120.length : Int) := of_decide_eq_true (by first | (with_reducible assumption) | assumption); obtain ⟨ad128, e128, hx128_0⟩ := Kd.at_int (Kd.R_reads' HO_16.out).2.2 x18_5 p128 q128; obtain rfl : ad123 = ad128 := (by injection e128); replace p128 := eq_true p128; replace q128 := eq_true q128) | (go_at_call 23; (with_reducible refine (cfg_Reaches.calls k5 _ _ l0 (rd t120 x18_5) t103 a1 true _ ?side1 ?side2 A65.out).mono ?_); (case side1 => repeat (first | exact (Kd.C_below HR0.out HB.out) | (with_reducible refine Kd.C_alloc ?_ _) | (with_reducible refine Kd.C_drewN ?_ _) | (with_reducible refine Kd.C_drew ?_))); (case side2 => exact HC0.out); rintro e w73 ⟨rfl, hb⟩; have n0_ := Aside0.mk (Kd.R_below (by (with_reducible repeat (first | apply Kd.R_alloc | apply Kd.R_drewN | apply Kd.R_drew)); exact HO_16.out) hb); have n1_ := Aside0.mk (below_step (by repeat (first | (with_reducible first | exact HB.out | apply below_alloc | apply pw_below_drewN | apply below_drew1) | exact HB.out)) hb); clear HO_16; clear HB; have HO_16 := n0_; have HB := n1_; clear n0_ n1_; (try clear hb); (try clear hb2); (try clear hk); (try clear hi)))
                          go_roundg k5
                          case measure => have := HJ4.out; have := HK2.out; have := HJ29.out; have := HJ38.out; have := HK5.out; omega
                          case rel => exact ⟨(true), (wrap64 (x18_5 + 1)), (by first | rfl | (simp; done) | (simp [*]; done)), (by first | rfl | (simp; done) | (simp [*]; done)), H', ⟨by have := HJ4.out; have := HK2.out; have := HJ29.out; have := HJ38.out; have := HK5.out; omega⟩, ⟨by (with_reducible repeat (first | apply Kd.R_alloc | apply Kd.R_drewN | apply Kd.R_drew)); exact HO_16.out⟩, ⟨by repeat (first | (with_reducible first | exact HB.out | apply below_alloc | apply pw_below_drewN | apply below_drew1) | exact HB.out)⟩⟩
                        ·replace c66 := Bool.eq_false_iff.mpr c66
                         subst c66
                         have H1 : (lambrequinlaw20_CfgSteps.l2 k5 l0 a1 a2 t101 t103 t120 false (wrap64 (x18_5 + 1))) = some r := by rw [if_neg (show ¬ (false = true) by decide)] at H; exact H
                         clear H
                         have H := H1
                         clear H1
                         have H' := Aside0.mk H
                         clear H
                         obtain ⟨Ao74, co74, eo74⟩ := Kd.R_slice HO_16.out
                         subst eo74
                         have p123 : 0 ≤ (x18_5 : Int) := of_decide_eq_true (by first | (with_reducible assumption) | assumption)
                         have q123 : x18_5 < (t120.length : Int) := of_decide_eq_true (by first | (with_reducible assumption) | assumption)
                         obtain ⟨ad123, e123, hx123_0⟩ := Kd.at_int (Kd.R_reads' HO_16.out).2.2 x18_5 p123 q123
                         cases e123
                         replace p123 := eq_true p123
                         replace q123 := eq_true q123
                         have p124 : 0 ≤ ((rd t120 x18_5) : Int) := of_decide_eq_true (by first | (with_reducible assumption) | assumption)
                         have q124 : (rd t120 x18_5) < (l0.length : Int) := of_decide_eq_true (by first | (with_reducible assumption) | assumption)
                         obtain ⟨ad124, e124, hx124_0, hx124_1, hx124_2, hx124_3, hx124_4, hx124_5, hx124_6, hx124_7⟩ := at_T30 HR0.out (rd t120 x18_5) p124 q124
                         obtain rfl : ad102 = ad124 := (by injection e124)
                         replace hx124_0 := (HB.out.cell (blt_ hx124_0)).trans hx124_0
                         replace hx124_1 := (HB.out.cell (blt_ hx124_1)).trans hx124_1
                         replace hx124_2 := (HB.out.cell (blt_ hx124_2)).trans hx124_2
                         replace hx124_3 := (HB.out.cell (blt_ hx124_3)).trans hx124_3
                         replace hx124_4 := (HB.out.cell (blt_ hx124_4)).trans hx124_4
                         replace hx124_5 := (HB.out.cell (blt_ hx124_5)).trans hx124_5
                         replace hx124_6 := (HB.out.cell (blt_ hx124_6)).trans hx124_6
                         replace hx124_7 := (HB.out.cell (blt_ hx124_7)).trans hx124_7
                         replace p124 := eq_true p124
                         replace q124 := eq_true q124
                         go_wp2_with (first | ((with_reducible refine gate_callee (f := 20) rfl ?_); refine goesL_ (some 140) rfl rfl Try.func20 (by kernel_rfl) rfl #[.agg #[.int .i64 ((rd_T30 l0 (rd t120 x18_5)).kind), .string ((rd_T30 l0 (rd t120 x18_5)).x), .string ((rd_T30 l0 (rd t120 x18_5)).y), .string ((rd_T30 l0 (rd t120 x18_5)).z), .string ((rd_T30 l0 (rd t120 x18_5)).op), .int .i64 ((rd_T30 l0 (rd t120 x18_5)).n), .int .i64 ((rd_T30 l0 (rd t120 x18_5)).a), .int .i64 ((rd_T30 l0 (rd t120 x18_5)).b)]] rfl (by (try simp only [List.map_toArray, List.map_cons, List.map_nil]); first | done | rfl | (simp only [List.length_drop, List.length_take]; rfl)) ?_; (with_reducible refine (cfg_Def.calls ((rd_T30 l0 (rd t120 x18_5)).kind) ((rd_T30 l0 (rd t120 x18_5)).x) ((rd_T30 l0 (rd t120 x18_5)).y) ((rd_T30 l0 (rd t120 x18_5)).z) ((rd_T30 l0 (rd t120 x18_5)).op) ((rd_T30 l0 (rd t120 x18_5)).n) ((rd_T30 l0 (rd t120 x18_5)).a) ((rd_T30 l0 (rd t120 x18_5)).b) t125 t126 _ A58.out).mono ?_); rintro e w75 ⟨rfl, hb⟩; refine ⟨_, rfl, ?_⟩; have n0_ := Aside0.mk (Kd.R_below (by (with_reducible repeat (first | apply Kd.R_alloc | apply Kd.R_drewN | apply Kd.R_drew)); exact HO_16.out) hb); have n1_ := Aside0.mk (below_step (by repeat (first | (with_reducible first | exact HB.out | apply below_alloc | apply pw_below_drewN | apply below_drew1) | exact HB.out)) hb); clear HO_16; clear HB; have HO_16 := n0_; have HB := n1_; clear n0_ n1_; (try clear hb); (try clear hb2); (try clear hk); (try clear hi); have p127 : 0 ≤ (x18_5 : Int) := of_decide_eq_true (by first | (with_reducible assumption) | assumption); have q127 : x18_5 < (t120.length : Int) := of_decide_eq_true (by first | (with_reducible assumption) | assumption); obtain ⟨ad127, e127, hx127_0⟩ := Kd.at_int (Kd.R_reads' HO_16.out).2.2 x18_5 p127 q127; obtain rfl : ad123 = ad127 := (by injection e127); replace p127 := eq_true p127; replace q127 := eq_true q127; have p128 : 0 ≤ (x18_5 : Int) := of_decide_eq_true (by first | (with_reducible assumption) | assumption); have q128 : x18_5 < (t120.length : Int) := of_decide_eq_true (by first | (with_reducible assumption) | assumption); obtain ⟨ad128, e128, hx128_0⟩ := Kd.at_int (Kd.R_reads' HO_16.out).2.2 x18_5 p128 q128; obtain rfl : ad123 = ad128 := (by injection e128); replace p128 := eq_true p128; replace q128 := eq_true q128) | (go_at_call 23; (with_reducible refine (cfg_Reaches.calls k5 _ _ l0 (rd t120 x18_5) t103 a1 false _ ?side1 ?side2 A65.out).mono ?_); (case side1 => repeat (first | exact (Kd.C_below HR0.out HB.out) | (with_reducible refine Kd.C_alloc ?_ _) | (with_reducible refine Kd.C_drewN ?_ _) | (with_reducible refine Kd.C_drew ?_))); (case side2 => exact HC0.out); rintro e w76 ⟨rfl, hb⟩; have n0_ := Aside0.mk (Kd.R_below (by (with_reducible repeat (first | apply Kd.R_alloc | apply Kd.R_drewN | apply Kd.R_drew)); exact HO_16.out) hb); have n1_ := Aside0.mk (below_step (by repeat (first | (with_reducible first | exact HB.out | apply below_alloc | apply pw_below_drewN | apply below_drew1) | exact HB.out)) hb); clear HO_16; clear HB; have HO_16 := n0_; have HB := n1_; clear n0_ n1_; (try clear hb); (try clear hb2); (try clear hk); (try clear hi)))
                         go_roundg k5
                         case measure => have := HJ4.out; have := HK2.out; have := HJ29.out; have := HJ38.out; have := HK5.out; omega
                         case rel => exact ⟨(false), (wrap64 (x18_5 + 1)), (by first | rfl | (simp; done) | (simp [*]; done)), (by first | rfl | (simp; done) | (simp [*]; done)), H', ⟨by have := HJ4.out; have := HK2.out; have := HJ29.out; have := HJ38.out; have := HK5.out; omega⟩, ⟨by (with_reducible repeat (first | apply Kd.R_alloc | apply Kd.R_drewN | apply Kd.R_drew)); exact HO_16.out⟩, ⟨by repeat (first | (with_reducible first | exact HB.out | apply below_alloc | apply pw_below_drewN | apply below_drew1) | exact HB.out)⟩⟩
                     ·rw [if_neg c57] at H
                      exact absurd H (by simp)
                    ·rw [if_neg c56] at H
                     exact absurd H (by simp)
                   ·rw [if_neg c55] at H
                    exact absurd H (by simp)
                  ·rw [if_neg c54] at H
                   have c54b0 : decide (x18_5 < (t120.length : Int)) = false := decide_eq_false c54
                   clear c54
                   by_cases c77 : t101 = true
                   ·subst c77
                    have H1 : ((cfg_Reaches.f k5 l0 a2 t103 a1).bind fun t130 => (some (t130 == x17_5))) = some r := by rw [if_pos rfl] at H; exact H
                    clear H
                    have H := H1
                    clear H1
                    replace H := Option.bind_eq_some_iff.mp H
                    obtain ⟨t130, A780, H⟩ := H
                    replace H : (some (t130 == x17_5)) = some r := H
                    have A78 := Aside0.mk A780
                    clear A780
                    obtain rfl := Option.some.inj H
                    obtain ⟨Ao79, co79, eo79⟩ := Kd.R_slice HO_16.out
                    subst eo79
                    go_wp2_with (first | (go_at_call 23; (with_reducible refine (cfg_Reaches.calls k5 _ _ l0 a2 t103 a1 t130 _ ?side1 ?side2 A78.out).mono ?_); (case side1 => repeat (first | exact (Kd.C_below HR0.out HB.out) | (with_reducible refine Kd.C_alloc ?_ _) | (with_reducible refine Kd.C_drewN ?_ _) | (with_reducible refine Kd.C_drew ?_))); (case side2 => exact HC0.out); rintro e w80 ⟨rfl, hb⟩; have n0_ := Aside0.mk (Kd.R_below (by (with_reducible repeat (first | apply Kd.R_alloc | apply Kd.R_drewN | apply Kd.R_drew)); exact HO_16.out) hb); have n1_ := Aside0.mk (below_step (by repeat (first | (with_reducible first | exact HB.out | apply below_alloc | apply pw_below_drewN | apply below_drew1) | exact HB.out)) hb); clear HO_16; clear HB; have HO_16 := n0_; have HB := n1_; clear n0_ n1_; (try clear hb); (try clear hb2); (try clear hk); (try clear hi)))
                    go_ret
                    exact ⟨by first | rfl | (simp [errW_none, errW_some] <;> rfl) | (simp [*, errW_none, errW_some] <;> rfl), by repeat (first | (with_reducible first | exact HB.out | apply below_alloc | apply pw_below_drewN | apply below_drew1) | exact HB.out)⟩
                   ·replace c77 := Bool.eq_false_iff.mpr c77
                    subst c77
                    have H1 : (some false) = some r := by rw [if_neg (show ¬ (false = true) by decide)] at H; exact H
                    clear H
                    have H := H1
                    clear H1
                    obtain rfl := Option.some.inj H
                    obtain ⟨Ao81, co81, eo81⟩ := Kd.R_slice HO_16.out
                    subst eo81
                    go_wp2
                    go_ret
                    exact ⟨by first | rfl | (simp [errW_none, errW_some] <;> rfl) | (simp [*, errW_none, errW_some] <;> rfl), by repeat (first | (with_reducible first | exact HB.out | apply below_alloc | apply pw_below_drewN | apply below_drew1) | exact HB.out)⟩
           ·rw [if_neg c28] at H
            exact absurd H (by simp)
          ·rw [if_neg c27] at H
           exact absurd H (by simp)
      ·replace c15 := Bool.eq_false_iff.mpr c15
       subst c15
       have H1 : (if t101 = true then ((cfg_Reaches.f kj4 l0 a2 t103 a1).bind fun t105 => (some (!t105))) else (some false)) = some r := by rw [if_neg (show ¬ (false = true) by decide)] at H; exact H
       clear H
       have H := H1
       clear H1
       by_cases c82 : t101 = true
       ·subst c82
        have H1 : ((cfg_Reaches.f kj4 l0 a2 t103 a1).bind fun t105 => (some (!t105))) = some r := by rw [if_pos rfl] at H; exact H
        clear H
        have H := H1
        clear H1
        replace H := Option.bind_eq_some_iff.mp H
        obtain ⟨t105, A830, H⟩ := H
        replace H : (some (!t105)) = some r := H
        have A83 := Aside0.mk A830
        clear A830
        obtain rfl := Option.some.inj H
        have p102 : 0 ≤ (a1 : Int) := of_decide_eq_true (by first | (with_reducible assumption) | assumption)
        have q102 : a1 < (l0.length : Int) := of_decide_eq_true (by first | (with_reducible assumption) | assumption)
        obtain ⟨ad102, e102, hx102_0, hx102_1, hx102_2, hx102_3, hx102_4, hx102_5, hx102_6, hx102_7⟩ := at_T30 HR0.out a1 p102 q102
        cases e102
        replace hx102_0 := (HB.out.cell (blt_ hx102_0)).trans hx102_0
        replace hx102_1 := (HB.out.cell (blt_ hx102_1)).trans hx102_1
        replace hx102_2 := (HB.out.cell (blt_ hx102_2)).trans hx102_2
        replace hx102_3 := (HB.out.cell (blt_ hx102_3)).trans hx102_3
        replace hx102_4 := (HB.out.cell (blt_ hx102_4)).trans hx102_4
        replace hx102_5 := (HB.out.cell (blt_ hx102_5)).trans hx102_5
        replace hx102_6 := (HB.out.cell (blt_ hx102_6)).trans hx102_6
        replace hx102_7 := (HB.out.cell (blt_ hx102_7)).trans hx102_7
        replace p102 := eq_true p102
        replace q102 := eq_true q102
        go_wp2_with (first | ((with_reducible refine gate_callee (f := 20) rfl ?_); refine goesL_ (some 51) rfl rfl Try.func20 (by kernel_rfl) rfl #[.agg #[.int .i64 ((rd_T30 l0 a1).kind), .string ((rd_T30 l0 a1).x), .string ((rd_T30 l0 a1).y), .string ((rd_T30 l0 a1).z), .string ((rd_T30 l0 a1).op), .int .i64 ((rd_T30 l0 a1).n), .int .i64 ((rd_T30 l0 a1).a), .int .i64 ((rd_T30 l0 a1).b)]] rfl (by (try simp only [List.map_toArray, List.map_cons, List.map_nil]); first | done | rfl | (simp only [List.length_drop, List.length_take]; rfl)) ?_; (with_reducible refine (cfg_Def.calls ((rd_T30 l0 a1).kind) ((rd_T30 l0 a1).x) ((rd_T30 l0 a1).y) ((rd_T30 l0 a1).z) ((rd_T30 l0 a1).op) ((rd_T30 l0 a1).n) ((rd_T30 l0 a1).a) ((rd_T30 l0 a1).b) t103 false _ A14.out).mono ?_); rintro e w84 ⟨rfl, hb⟩; refine ⟨_, rfl, ?_⟩; have n0_ := Aside0.mk (below_step (by repeat (first | (with_reducible first | exact HB.out | apply below_alloc | apply pw_below_drewN | apply below_drew1) | exact HB.out)) hb); clear HB; have HB := n0_; clear n0_; (try clear hb); (try clear hb2); (try clear hk); (try clear hi)) | (go_at_call 23; (with_reducible refine (cfg_Reaches.calls kj4 _ _ l0 a2 t103 a1 t105 _ ?side1 ?side2 A83.out).mono ?_); (case side1 => repeat (first | exact (Kd.C_below HR0.out HB.out) | (with_reducible refine Kd.C_alloc ?_ _) | (with_reducible refine Kd.C_drewN ?_ _) | (with_reducible refine Kd.C_drew ?_))); (case side2 => exact HC0.out); rintro e w85 ⟨rfl, hb⟩; have n0_ := Aside0.mk (below_step (by repeat (first | (with_reducible first | exact HB.out | apply below_alloc | apply pw_below_drewN | apply below_drew1) | exact HB.out)) hb); clear HB; have HB := n0_; clear n0_; (try clear hb); (try clear hb2); (try clear hk); (try clear hi)))
        go_ret
        exact ⟨by first | rfl | (simp [errW_none, errW_some] <;> rfl) | (simp [*, errW_none, errW_some] <;> rfl), by repeat (first | (with_reducible first | exact HB.out | apply below_alloc | apply pw_below_drewN | apply below_drew1) | exact HB.out)⟩
       ·replace c82 := Bool.eq_false_iff.mpr c82
        subst c82
        have H1 : (some false) = some r := by rw [if_neg (show ¬ (false = true) by decide)] at H; exact H
        clear H
        have H := H1
        clear H1
        obtain rfl := Option.some.inj H
        have p102 : 0 ≤ (a1 : Int) := of_decide_eq_true (by first | (with_reducible assumption) | assumption)
        have q102 : a1 < (l0.length : Int) := of_decide_eq_true (by first | (with_reducible assumption) | assumption)
        obtain ⟨ad102, e102, hx102_0, hx102_1, hx102_2, hx102_3, hx102_4, hx102_5, hx102_6, hx102_7⟩ := at_T30 HR0.out a1 p102 q102
        cases e102
        replace hx102_0 := (HB.out.cell (blt_ hx102_0)).trans hx102_0
        replace hx102_1 := (HB.out.cell (blt_ hx102_1)).trans hx102_1
        replace hx102_2 := (HB.out.cell (blt_ hx102_2)).trans hx102_2
        replace hx102_3 := (HB.out.cell (blt_ hx102_3)).trans hx102_3
        replace hx102_4 := (HB.out.cell (blt_ hx102_4)).trans hx102_4
        replace hx102_5 := (HB.out.cell (blt_ hx102_5)).trans hx102_5
        replace hx102_6 := (HB.out.cell (blt_ hx102_6)).trans hx102_6
        replace hx102_7 := (HB.out.cell (blt_ hx102_7)).trans hx102_7
        replace p102 := eq_true p102
        replace q102 := eq_true q102
        go_wp2_with (first | ((with_reducible refine gate_callee (f := 20) rfl ?_); refine goesL_ (some 51) rfl rfl Try.func20 (by kernel_rfl) rfl #[.agg #[.int .i64 ((rd_T30 l0 a1).kind), .string ((rd_T30 l0 a1).x), .string ((rd_T30 l0 a1).y), .string ((rd_T30 l0 a1).z), .string ((rd_T30 l0 a1).op), .int .i64 ((rd_T30 l0 a1).n), .int .i64 ((rd_T30 l0 a1).a), .int .i64 ((rd_T30 l0 a1).b)]] rfl (by (try simp only [List.map_toArray, List.map_cons, List.map_nil]); first | done | rfl | (simp only [List.length_drop, List.length_take]; rfl)) ?_; (with_reducible refine (cfg_Def.calls ((rd_T30 l0 a1).kind) ((rd_T30 l0 a1).x) ((rd_T30 l0 a1).y) ((rd_T30 l0 a1).z) ((rd_T30 l0 a1).op) ((rd_T30 l0 a1).n) ((rd_T30 l0 a1).a) ((rd_T30 l0 a1).b) t103 false _ A14.out).mono ?_); rintro e w86 ⟨rfl, hb⟩; refine ⟨_, rfl, ?_⟩; have n0_ := Aside0.mk (below_step (by repeat (first | (with_reducible first | exact HB.out | apply below_alloc | apply pw_below_drewN | apply below_drew1) | exact HB.out)) hb); clear HB; have HB := n0_; clear n0_; (try clear hb); (try clear hb2); (try clear hk); (try clear hi)))
        go_ret
        exact ⟨by first | rfl | (simp [errW_none, errW_some] <;> rfl) | (simp [*, errW_none, errW_some] <;> rfl), by repeat (first | (with_reducible first | exact HB.out | apply below_alloc | apply pw_below_drewN | apply below_drew1) | exact HB.out)⟩
     ·rw [if_neg c13] at H
      exact absurd H (by simp)
    ·rw [if_neg c12] at H
     exact absurd H (by simp)

end Go.Proofs.Ytnepgcbgkhikkaa.H
/- CfgSteps: a definition reaches all to which it leads; what reaches a statement that doesn't define its name reaches all to which that leads; what reaches one comes from what leads there. Conditions: the statement's own. -/
namespace Go.Proofs.Ytnepgcbgkhikkaa.H
open Go.RowKit Go.Proofs.YtnepgcbgkhikkaaW.PrintWords
set_option linter.unusedVariables false
set_option linter.unusedSimpArgs false
set_option linter.unusedSectionVars false
theorem reach_step {s : List Stmt} {n d : Int} {x : ByteArray} (hn : 0 ≤ n ∧ n < (s.length : Int)) (hd : 0 ≤ d ∧ d < (s.length : Int)) (hx : defB (at_ s d) x = true) : reachP s n x d ↔ ∃ m ∈ prv s n, m = d ∨ reachP s m x d ∧ defB (at_ s m) x = false := by
  constructor
  · rintro ⟨-, -, -, -, -, h⟩
    cases h with
    | base h => exact ⟨d, mem_prv.2 h, .inl rfl⟩
    | step hm ho h =>
      rename_i m
      have hw := nxt_within h
      exact ⟨m, mem_prv.2 h, .inr ⟨⟨hw.2.2.1, hw.2.2.2, hd.1, hd.2, hx, hm⟩, by simpa [keepS] using ho⟩⟩
  · rintro ⟨m, hm, rfl | ⟨⟨-, -, -, -, -, hr⟩, ho⟩⟩
    · exact ⟨hn.1, hn.2, hd.1, hd.2, hx, .base (mem_prv.1 hm)⟩
    · exact ⟨hn.1, hn.2, hd.1, hd.2, hx, .step hr (by simp [keepS, ho]) (mem_prv.1 hm)⟩
section
variable (s : List Stmt) (n d : Int) (x : ByteArray) (hs : s.length ≤ 25) (hn : 0 ≤ n ∧ n < (s.length : Int)) (hd : 0 ≤ d ∧ d < (s.length : Int)) (hx : defB (at_ s d) x = true)
include hs hn hd hx
theorem Steps_l2 (l : List Int) (hl : l = prv s n) : ∀ (r : List Int) (i : Nat) (c : Bool), l.drop i = r → (reachP s n x d ↔ c = true ∨ ∃ m ∈ r, m = d ∨ reachP s m x d ∧ defB (at_ s m) x = false) →
    Ev (fun k => lambrequinlaw20_CfgSteps.l2 k s d n true x l c i) true
  | [], i, c, h, e => by
    refine Ev.step (fun k => by rw [lambrequinlaw20_CfgSteps.l2]) ?_
    refine Ev.neg (drop_end h) ?_
    refine Ev.pos rfl ?_
    obtain ⟨b, hb, hbi⟩ := Reaches_ev s n x d (by omega)
    refine Ev.bind hb (Ev.some ?_)
    rw [e] at hbi
    have hbc : b = true ↔ c = true := by simpa using hbi
    clear hbi hb e
    cases b <;> cases c <;> simp at hbc ⊢
  | y :: r, i, c, h, e => by
    have hll : l.length ≤ 25 := by have := prv_len s n; rw [hl]; omega
    obtain ⟨g1, g2, g3, g4, g5⟩ := drop_more h (by omega)
    have hy : y ∈ prv s n := by
      have : y ∈ l.drop i := by rw [h]; simp
      exact hl ▸ List.mem_of_mem_drop this
    have hw := nxt_within (mem_prv.1 hy)
    refine Ev.step (fun k => by rw [lambrequinlaw20_CfgSteps.l2]) ?_
    refine Ev.pos g1 (Ev.pos g2 ?_)
    rw [show rd l i = y from g3 _, g5]
    refine Ev.pos hw.2.2.1 (Ev.pos hw.2.2.2 (Ev.pure (Def_eq (at_ s y)) ?_))
    cases c with
    | true => exact Ev.pos rfl (Steps_l2 l hl r (i + 1) true g4 (by rw [e]; simp))
    | false =>
      refine Ev.neg (by simp) ?_
      by_cases hyd : y = d
      · exact Ev.pos hyd (Steps_l2 l hl r (i + 1) true g4 (by rw [e]; simp [hyd]))
      · refine Ev.neg hyd ?_
        obtain ⟨b, hb, hbi⟩ := Reaches_ev s y x d (by omega)
        refine Ev.bind hb ?_
        have e' : ∀ c' : Bool, (c' = true ↔ reachP s y x d ∧ defB (at_ s y) x = false) → (reachP s n x d ↔ c' = true ∨ ∃ m ∈ r, m = d ∨ reachP s m x d ∧ defB (at_ s m) x = false) := by
          intro c' hc'
          rw [e, hc']
          simp [hyd]
        cases b with
        | false => exact Ev.neg (by simp) (Steps_l2 l hl r (i + 1) false g4 (e' false (by simp at hbi; simp [hbi])))
        | true =>
          have hr : reachP s y x d := hbi.1 rfl
          refine Ev.pos rfl ?_
          by_cases hdf : (defN (at_ s y)).2 = true
          · refine Ev.pos hdf (Steps_l2 l hl r (i + 1) _ g4 (e' _ ?_))
            by_cases hxx : (defN (at_ s y)).1 = x
            · simp [hxx, defB, hdf]
            · have : ¬ (defN (at_ s y)).1.toList = x.toList := by rw [lib_ba_eq]; exact hxx
              simp [this, hxx, defB, hr]
          · exact Ev.neg hdf (Steps_l2 l hl r (i + 1) true g4 (e' true (by simp [hr, defB, hdf])))
theorem Steps_j4 : Ev (fun k => lambrequinlaw20_CfgSteps.j4 k s d n true x) true := by
  refine Ev.step (fun k => by rw [lambrequinlaw20_CfgSteps.j4]) ?_
  refine Ev.bind (Prev_ev s n (by omega)) ?_
  refine Steps_l2 s n d x hs hn hd hx (prv s n) rfl (prv s n) 0 false rfl ?_
  rw [reach_step hn hd hx]
  simp
theorem Steps_l1 (hr : reachP s n x d) (ho : defB (at_ s n) x = false) (l : List Int) (hl : l = nxt s n) : ∀ (r : List Int) (i : Nat), l.drop i = r → Ev (fun k => lambrequinlaw20_CfgSteps.l1 k s d n true x l i) true
  | [], i, h => by
    refine Ev.step (fun k => by rw [lambrequinlaw20_CfgSteps.l1]) ?_
    exact Ev.neg (drop_end h) (Steps_j4 s n d x hs hn hd hx)
  | y :: r, i, h => by
    have hll : l.length ≤ 2 := hl ▸ nxt_len s n
    obtain ⟨g1, g2, g3, g4, g5⟩ := drop_more h (by omega)
    have hy : y ∈ nxt s n := by
      have : y ∈ l.drop i := by rw [h]; simp
      exact hl ▸ List.mem_of_mem_drop this
    have hw := nxt_within hy
    refine Ev.step (fun k => by rw [lambrequinlaw20_CfgSteps.l1]) ?_
    refine Ev.pos g1 (Ev.pos g2 ?_)
    rw [show rd l i = y from g3 _, g5]
    have hy' : reachP s y x d := ⟨hw.1, hw.2.1, hd.1, hd.2, hx, .step hr.2.2.2.2.2 (by simp [keepS, ho]) hy⟩
    exact Ev.bind (ev_yes (Reaches_ev s y x d (by omega)) hy') (Ev.pos rfl (Steps_l1 hr ho l hl r (i + 1) g4))
theorem Steps_j2 (b : Bool) (hb : b = true → reachP s n x d ∧ defB (at_ s n) x = false) : Ev (fun k => lambrequinlaw20_CfgSteps.j2 k s d n true x b) true := by
  refine Ev.step (fun k => by rw [lambrequinlaw20_CfgSteps.j2]) ?_
  cases b with
  | false => exact Ev.neg (by simp) (Steps_j4 s n d x hs hn hd hx)
  | true =>
    refine Ev.pos rfl (Ev.pure (Next_eq s n) ?_)
    exact Steps_l1 s n d x hs hn hd hx (hb rfl).1 (hb rfl).2 (nxt s n) rfl (nxt s n) 0 rfl
theorem Steps_l0 (l : List Int) (hl : l = nxt s d) : ∀ (r : List Int) (i : Nat), l.drop i = r → Ev (fun k => lambrequinlaw20_CfgSteps.l0 k s d n true x l i) true
  | [], i, h => by
    refine Ev.step (fun k => by rw [lambrequinlaw20_CfgSteps.l0]) ?_
    refine Ev.neg (drop_end h) (Ev.pos hn.1 (Ev.pos hn.2 (Ev.pure (Def_eq (at_ s n)) ?_)))
    obtain ⟨b, hb, hbi⟩ := Reaches_ev s n x d (by omega)
    refine Ev.bind hb ?_
    cases b with
    | false => exact Ev.neg (by simp) (Steps_j2 s n d x hs hn hd hx false (by simp))
    | true =>
      have hr : reachP s n x d := hbi.1 rfl
      refine Ev.pos rfl ?_
      by_cases hdf : (defN (at_ s n)).2 = true
      · refine Ev.pos hdf (Steps_j2 s n d x hs hn hd hx _ (fun h => ⟨hr, ?_⟩))
        have : ¬ (defN (at_ s n)).1 = x := by
          rw [← lib_ba_eq]
          simpa using h
        simp [defB, this]
      · exact Ev.neg hdf (Steps_j2 s n d x hs hn hd hx true (fun _ => ⟨hr, by simp [defB, hdf]⟩))
  | y :: r, i, h => by
    have hll : l.length ≤ 2 := hl ▸ nxt_len s d
    obtain ⟨g1, g2, g3, g4, g5⟩ := drop_more h (by omega)
    have hy : y ∈ nxt s d := by
      have : y ∈ l.drop i := by rw [h]; simp
      exact hl ▸ List.mem_of_mem_drop this
    have hw := nxt_within hy
    refine Ev.step (fun k => by rw [lambrequinlaw20_CfgSteps.l0]) ?_
    refine Ev.pos g1 (Ev.pos g2 ?_)
    rw [show rd l i = y from g3 _, g5]
    have hy' : reachP s y x d := ⟨hw.1, hw.2.1, hd.1, hd.2, hx, .base hy⟩
    exact Ev.bind (ev_yes (Reaches_ev s y x d (by omega)) hy') (Ev.pos rfl (Steps_l0 l hl r (i + 1) g4))
end
theorem CfgSteps_pure (x0 : List Stmt) (y0 : x0.length * 96 ≤ 140737488351232) (a1 : Int) (w1 : (Lit.int .i64 a1).wf = true) (a2 : Int) (w2 : (Lit.int .i64 a2).wf = true) :
    ∃ k, lambrequinlaw20_CfgSteps.f k x0 a1 a2 = some true := by
  refine Ev.rounds (g := fun k => lambrequinlaw20_CfgSteps.f k x0 a1 a2) ?_
  unfold lambrequinlaw20_CfgSteps.f
  refine Ev.bind shown20_ev ?_
  have up : Ev (fun k => lambrequinlaw20_CfgSteps.j0 k x0 a1 a2 true true) true := by
    refine Ev.step (fun k => by rw [lambrequinlaw20_CfgSteps.j0]) ?_
    exact Ev.pos rfl (Ev.now _)
  by_cases c : (x0.length : Int) > 25
  · exact Ev.pos c up
  · refine Ev.neg c ?_
    by_cases c1 : a1 < 0
    · exact Ev.pos c1 up
    · refine Ev.neg c1 ?_
      by_cases c2 : a1 ≥ (x0.length : Int)
      · exact Ev.pos c2 up
      · refine Ev.neg c2 ?_
        by_cases c3 : a2 < 0
        · exact Ev.pos c3 up
        · refine Ev.neg c3 ?_
          by_cases c4 : a2 ≥ (x0.length : Int)
          · rw [decide_eq_true c4]; exact up
          · rw [decide_eq_false c4]
            have hd : 0 ≤ a1 ∧ a1 < (x0.length : Int) := by omega
            have hn : 0 ≤ a2 ∧ a2 < (x0.length : Int) := by omega
            refine Ev.step (fun k => by rw [lambrequinlaw20_CfgSteps.j0]) ?_
            refine Ev.neg (by simp) (Ev.pos hd.1 (Ev.pos hd.2 (Ev.pure (Def_eq (at_ x0 a1)) ?_)))
            by_cases hdf : (defN (at_ x0 a1)).2 = true
            · refine Ev.pos hdf (Ev.pure (Next_eq x0 a1) ?_)
              exact Steps_l0 x0 a2 a1 (defN (at_ x0 a1)).1 (by omega) hn hd (defB_iff.2 ⟨hdf, rfl⟩) (nxt x0 a1) rfl (nxt x0 a1) 0 rfl
            · refine Ev.neg hdf (Ev.pos rfl (Ev.bind (ev_no (Reaches_ev x0 a2 _ a1 (by omega)) ?_) (Ev.some rfl)))
              rintro ⟨-, -, -, -, h, -⟩
              exact hdf (defB_iff.1 h).1
theorem CfgSteps_walk (w : World) (x0 : (List Stmt)) (A0 : Option Addr) (c0 : Nat) (l0 : x0.length ≤ c0) (g0 : Kd.C k30 w A0 x0.length x0) (y0 : x0.length * 96 ≤ 140737488351232) (a1 : Int) (w1 : (Lit.int .i64 a1).wf = true) (a2 : Int) (w2 : (Lit.int .i64 a2).wf = true) :
    Calls Try.prog 4 #[.slice A0 x0.length c0, .int .i64 a1, .int .i64 a2] w fun e w' => e = .returned (.bool true) ∧ Below w.heap.size w w' := by
  obtain ⟨k, h⟩ := CfgSteps_pure x0 y0 a1 w1 a2 w2
  exact (lambrequinlaw20_CfgSteps.calls k A0 c0 x0 a1 a2 true w g0 l0 h).mono (fun e w' h' => ⟨h'.1, h'.2⟩)
end Go.Proofs.Ytnepgcbgkhikkaa.H
namespace Go.Proofs.Ytnepgcbgkhikkaa.cfgSteps
open Go.ChangeShapes Go.WideShapes Go.ChangeAt Go.RowKit Go.Proofs.Ytnepgcbgkhikkaa.H Go.Proofs.YtnepgcbgkhikkaaW.PrintWords
open Go.ChangeMaps (open_string shut_string)
set_option linter.unusedVariables false
theorem own : ownKnob Try.prog.godebug = none := by kernel_rfl
theorem laidOut : laidOutB Try.prog = true := by kernel_rfl
set_option maxRecDepth 100000 in
theorem lifted (os : Os) (started : os.Started) (H : Type) (enc : TypeId × Value → H) :
    ReturnsInHanded {} Try.checked os 4 .any (Rows.cfgStepsSpec.pre6 enc Try.prog Try.f4 Rows.cfgStepsRow.domain false) (Rows.cfgStepsSpec.post enc Try.prog Try.f4 false true false false) := by
  refine returnsInHanded_of_change_sized (C := Try.checked) own started (by kernel_rfl) Try.func4
    (ChangeSpec.witness6 (enc := enc) (C := Try.checked) false ⟨#[], #[.slice none 0 0, .int .i64 0, .int .i64 0], []⟩ 8 (by kernel_rfl) (by kernel_rfl) (by kernel_rfl) (by kernel_rfl)) ?_
  intro W base args ds gs before hval0 hW hcnd hsz0 _
  have hsz : (DataW.weightsEach Try.prog (Try.f4.params.toList ++ Rows.cfgStepsSpec.plain.varTypes Try.prog) (ds ++ gs)).all (· ≤ reachBytes) = true := hsz0
  have hval : ∀ (j : Nat) t v, Try.f4.params[j]? = some t → args[j]? = some v → Value.okWide Try.prog W .any base t v := hval0
  have hW' := hW
  obtain ⟨p, q, hA0, hV, rfl, hfz, hnd⟩ := hW
  have hA : DataW.TrodAll enc Try.prog W 0 (fun _ => true) true Try.f4.params.toList args.toList ds p := hA0
  rw [Try.params4] at hA hval hsz
  obtain ⟨v0, vs0, d0, ds0, p0, q0, hargs, rfl, rfl, h0, r0⟩ := trodAll_cons hA
  obtain ⟨v1, vs1, d1, ds1, p1, q1, rfl, rfl, rfl, h1, r1⟩ := trodAll_cons r0
  obtain ⟨v2, vs2, d2, ds2, p2, q2, rfl, rfl, rfl, h2, r2⟩ := trodAll_cons r1
  obtain ⟨rfl, rfl, rfl⟩ := trodAll_nil r2
  obtain rfl : args = #[v0, v1, v2] := by cases args; simp_all
  obtain ⟨rfl, rfl⟩ := trodVars_none hV
  have k0 := h0
  have lt0 : ∀ x ∈ p0, x.block < W.heap.size := by obtain ⟨m, hm⟩ := k0; exact DataW.trod_lt m _ _ _ hm
  obtain ⟨a0, len0, cap0, rfl⟩ := okWide_slice Try.underlying22 (hval 0 22 v0 rfl rfl)
  have y0 := sized_row hsz (j := 0) (t := 22) rfl rfl Try.underlying22 (B := 96) (by kernel_rfl) h0
  obtain ⟨x0, A0, c0, e0, l0, g0⟩ := (opens_slice Try.underlying22 (by kernel_rfl) opens_Stmt 30).arg k0
  simp only [Value.cells, List.cons.injEq, and_true, Value.slice.injEq] at e0
  obtain ⟨rfl, rfl, rfl⟩ := e0
  obtain ⟨a1, rfl, rfl, rfl, w1⟩ := open_int Try.underlying3 (hval 1 3 v1 rfl rfl) h1
  obtain ⟨a2, rfl, rfl, rfl, w2⟩ := open_int Try.underlying3 (hval 2 3 v2 rfl rfl) h2
  clear hA0 hval0 hsz0 hsz
  refine (CfgSteps_walk W x0 a0 cap0 l0 g0 y0 a1 w1 a2 w2).mono fun e W' ⟨he, bel⟩ => ?_
  subst he
  exact ⟨_, rfl, _, _, _, [], _, [], hW', trodAll_mk1 (shut_bool Try.underlying4 _), (trodAll_cons_mk (Below.trod laidOut (by kernel_rfl) (of_decide_eq_true (by kernel_rfl)) k0 bel lt0) (trodAll_cons_mk (shut_int Try.underlying3 w1) (trodAll_cons_mk (shut_int Try.underlying3 w2) trodAll_mk0))), rfl, bel.frame _, fun h => by cases h⟩
theorem over : Rows.cfgStepsRow.holds Try.pinned (OpenSpec.ofChange Rows.cfgStepsSpec) :=
  OpenClaim.holds_of_wide 4 Try.f4 rfl rfl rfl rfl rfl rfl rfl ⟨rfl, rfl, rfl, rfl, rfl⟩ rfl rfl rfl rfl rfl (by kernel_rfl) Try.func4 (by kernel_rfl)
    (of_decide_eq_true (by kernel_rfl)) (by unfold Func.isWrapper; first | (rw [if_pos (by decide +kernel)]; kernel_rfl) | (rw [if_neg (by decide +kernel)]; exact ⟨rfl, rfl⟩))
    (fun os started H enc _ => lifted os started H enc)
theorem proved : Rows.CfgStepsSaid := over
end Go.Proofs.Ytnepgcbgkhikkaa.cfgSteps
namespace Go.Proofs.Ytnepgcbgkhikkaa
theorem cfgSteps_holds : Rows.CfgStepsSaid := cfgSteps.proved
#print axioms cfgSteps_holds
end Go.Proofs.Ytnepgcbgkhikkaa

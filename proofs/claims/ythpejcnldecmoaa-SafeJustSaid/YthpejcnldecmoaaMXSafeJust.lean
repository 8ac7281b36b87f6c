/- RowSafeJust of the seat's law SafeJust: the law holds, under the statement's own conditions. -/
import Derived.Test.YthpejcnldecmoaaMA
import Derived.Test.YthpejcnldecmoaaMD
import Derived.Test.YthpejcnldecmoaaMF
import Derived.Test.YthpejcnldecmoaaRows
import Derived.Test.YthpejcnldecmoaaWSized
import Derived.WalkKit
import Derived.ProofKit
import Derived.OpenShut
import Derived.ShutString
import Derived.ChangeOld
import Derived.Below
import Derived.SizedLaws
import Derived.Carry
-- made by a program of this session (wip/tools) out of the translation; Lean checks it.
namespace Go.Proofs.Ythpejcnldecmoaa.H
open Go.RowKit Go.Proofs.YthpejcnldecmoaaW.PrintWords Go.Proofs.YthpejcnldecmoaaW.PrintLast Go.Proofs.YthpejcnldecmoaaW.PrintMore
attribute [local go_sem] max2_int min2_int max_two min_two max_three min_three max_four min_four   -- for this text's walks alone
set_option linter.unusedVariables false
set_option linter.unusedSimpArgs false

/-! ### lambrequinref09_Binds: function 27 -/
def lambrequinref09_Binds.l0 : Nat → ByteArray → Int → ByteArray → List (Term) → List (Liter) → Option (Bool)
 | 0, _, _, _, _, _ => none
 | k + 1, x1, x5, x102000, x102001, x102002 => if x5 < (x102002.length : Int) then (if 0 ≤ x5 then (if ((rd_T47 x102002 x5).kind) = 1 then ((lambrequinref09_Vars.f k ((rd_T47 x102002 x5).atom.pred) ((rd_T47 x102002 x5).atom.args)).bind fun t104 => ((lambrequinref09_In.f k t104 x1).bind fun t107 => (if t107 = true then (some true) else (lambrequinref09_Binds.l0 k x1 (wrap64 (x5 + 1)) x102000 x102001 x102002)))) else (lambrequinref09_Binds.l0 k x1 (wrap64 (x5 + 1)) x102000 x102001 x102002)) else (none)) else (some false)
def lambrequinref09_Binds.f (k : Nat) (a0_0 : ByteArray) (l0_1 : List (Term)) (l0_2 : List (Liter)) (a1 : ByteArray) : Option (Bool) := lambrequinref09_Binds.l0 k a1 0 a0_0 l0_1 l0_2
theorem lambrequinref09_Binds.mono_l : ∀ k, (∀ y0 y1 y2 y3 y4, LeO (lambrequinref09_Binds.l0 k y0 y1 y2 y3 y4) (lambrequinref09_Binds.l0 (k + 1) y0 y1 y2 y3 y4))
 | 0 => fun _ _ _ _ _ r h => by simp [lambrequinref09_Binds.l0] at h
 | k + 1 => by
  have ih0 := lambrequinref09_Binds.mono_l k
  ·intro y0 y1 y2 y3 y4
   unfold lambrequinref09_Binds.l0
   repeat' first
   | (with_reducible exact ih0 _ _ _ _ _)
   | (with_reducible exact lambrequinref09_In.mono _ _ _)
   | (with_reducible exact lambrequinref09_Vars.mono _ _ _)
   | (with_reducible exact LeO.refl _)
   | (with_reducible exact LeO.none _)
   | (with_reducible refine LeO.ite ?_ ?_)
   | (with_reducible refine LeO.bind ?_ (fun _ => ?_))
   | exact ih0 _ _ _ _ _
   | exact lambrequinref09_In.mono _ _ _
   | exact lambrequinref09_Vars.mono _ _ _
   | exact LeO.none _
   | refine LeO.ite ?_ ?_
   | refine LeO.bind ?_ (fun _ => ?_)
theorem lambrequinref09_Binds.mono : ∀ a0 a1 a2 a3 k, LeO (lambrequinref09_Binds.f k a0 a1 a2 a3) (lambrequinref09_Binds.f (k + 1) a0 a1 a2 a3) := by
 intro a0 a1 a2 a3 k
 have ih0 := lambrequinref09_Binds.mono_l k
 unfold lambrequinref09_Binds.f
 repeat' first
   | (with_reducible exact ih0 _ _ _ _ _)
   | (with_reducible exact lambrequinref09_In.mono _ _ _)
   | (with_reducible exact lambrequinref09_Vars.mono _ _ _)
   | (with_reducible exact LeO.refl _)
   | (with_reducible exact LeO.none _)
   | (with_reducible refine LeO.ite ?_ ?_)
   | (with_reducible refine LeO.bind ?_ (fun _ => ?_))
   | exact ih0 _ _ _ _ _
   | exact lambrequinref09_In.mono _ _ _
   | exact lambrequinref09_Vars.mono _ _ _
   | exact LeO.none _
   | refine LeO.ite ?_ ?_
   | refine LeO.bind ?_ (fun _ => ?_)
set_option maxHeartbeats 8000000 in
set_option maxRecDepth 100000 in
theorem lambrequinref09_Binds.calls (k : Nat) (a0_0 : ByteArray) (A0_1 : Option Addr) (c0_1 : Nat) (l0_1 : List (Term)) (A0_2 : Option Addr) (c0_2 : Nat) (l0_2 : List (Liter)) (a1 : ByteArray) (r : Bool) (w : World) (hr0_1 : Kd.C k45 w A0_1 l0_1.length l0_1) (hc0_1 : l0_1.length ≤ c0_1) (hr0_2 : Kd.C k47 w A0_2 l0_2.length l0_2) (hc0_2 : l0_2.length ≤ c0_2) (h : lambrequinref09_Binds.f k a0_0 l0_1 l0_2 a1 = some r) :
  Calls Try.prog 27 #[.agg #[.string a0_0, .slice A0_1 l0_1.length c0_1, .slice A0_2 l0_2.length c0_2], .string a1] w fun e w' => e = .returned (.bool r) ∧ Below w.heap.size w w' := by
 have hu27 := Try.underlying27
 have hu24 := Try.underlying24
 have HR0_1 := Aside0.mk hr0_1
 have HC0_1 := Aside0.mk hc0_1
 clear hr0_1 hc0_1
 have HR0_2 := Aside0.mk hr0_2
 have HC0_2 := Aside0.mk hc0_2
 clear hr0_2 hc0_2
 have HB := Aside0.mk (Below.refl w.heap.size w)
 have H : (lambrequinref09_Binds.l0 k a1 0 a0_0 l0_1 l0_2) = some r := h
 clear h
 have H' := Aside0.mk H
 clear H
 go_enter Try.func27, Try.ntmps27
 go_wp2_with (first | ((with_reducible refine gate_dst (N := 2) rfl ?_); refine box_event ?hg (N := 2) ?hd (cs := #[.string a0_0, .slice A0_1 l0_1.length c0_1, .slice A0_2 l0_2.length c0_2]) (t := 27) ?hr ?_; (case hd => rfl); (case hg => rfl); (case hr => first | (go_simp; done) | (go_simp; rfl)); intro gb101 hg w3 hbox hb; have n0_ := Aside0.mk (below_step (by repeat (first | (with_reducible first | exact HB.out | apply below_alloc | apply pw_below_drewN | apply below_drew1) | exact HB.out)) hb); have n1_ := Aside0.mk (hbox); have n2_ := Aside0.mk ((by rw [hg]; exact (below_size (by repeat (first | (with_reducible first | exact HB.out | apply below_alloc | apply pw_below_drewN | apply below_drew1) | exact HB.out))) : w.heap.size ≤ gb101)); have n3_ := Aside0.mk ((by rw [hg]; exact (below_size (by repeat (first | (with_reducible first | exact HB.out | apply below_alloc | apply pw_below_drewN | apply below_drew1) | exact HB.out))) : w.heap.size ≤ gb101)); clear HB; have HB := n0_; have BK101 := n1_; have GW101 := n2_; have GE101 := n3_; clear n0_ n1_ n2_ n3_; clear hb hbox hg))
 go_loopg [5] k (fun kq v5 w' => ∃ (x5_1 : Int), v5 = .int .i64 x5_1 ∧ Aside0 (lambrequinref09_Binds.l0 kq a1 x5_1 a0_0 l0_1 l0_2 = some r) ∧ Aside0 (kq ≤ k) ∧ Aside0 (w'.heap[gb101]? = some (.cells #[.string a0_0, (.slice A0_1 l0_1.length c0_1), (.slice A0_2 l0_2.length c0_2)] 27 (0, 0))) ∧ Aside0 (Below w.heap.size w w'))
 case atStart => exact ⟨(0), (by first | rfl | (simp; done) | (simp [*]; done)), H', ⟨Nat.le_refl _⟩, ⟨by (with_reducible repeat (first | refine blk_drewN ?_ _ | refine blk_drew ?_ | refine blk_alloc ?_ _)); exact BK101.out⟩, ⟨by repeat (first | (with_reducible first | exact HB.out | apply below_alloc | apply pw_below_drewN | apply below_drew1 | refine below_set ?_ GE101.out) | exact HB.out)⟩⟩
 case round =>
  clear H'
  try clear c2
  try clear p2
  obtain ⟨x5_1, rfl, HA, HK1, BK101, HB⟩ := hrel
  cases gk with
  | zero => exact absurd HA.out (by simp [lambrequinref09_Binds.l0])
  | succ k1 =>
   have H := HA.out
   clear HA
   simp only [lambrequinref09_Binds.l0] at H
   by_cases c4 : x5_1 < (l0_2.length : Int)
   ·rw [if_pos c4] at H
    have c4b0 : decide (x5_1 < (l0_2.length : Int)) = true := decide_eq_true c4
    clear c4
    by_cases c5 : 0 ≤ x5_1
    ·rw [if_pos c5] at H
     have c5b0 : decide (0 ≤ x5_1) = true := decide_eq_true c5
     clear c5
     by_cases c6 : ((rd_T47 l0_2 x5_1).kind) = 1
     ·rw [if_pos c6] at H
      have c6b0 : (((rd_T47 l0_2 x5_1).kind) == 1) = true := beq_iff_eq.mpr c6
      have c6b1 : (((rd_T47 l0_2 x5_1).kind) != 1) = false := bne_eq_false_iff_eq.mpr c6
      clear c6
      replace H := Option.bind_eq_some_iff.mp H
      obtain ⟨t104, A70, H⟩ := H
      replace H : ((lambrequinref09_In.f k1 t104 a1).bind fun t107 => (if t107 = true then (some true) else (lambrequinref09_Binds.l0 k1 a1 (wrap64 (x5_1 + 1)) a0_0 l0_1 l0_2))) = some r := H
      have A7 := Aside0.mk A70
      clear A70
      replace H := Option.bind_eq_some_iff.mp H
      obtain ⟨t107, A80, H⟩ := H
      replace H : (if t107 = true then (some true) else (lambrequinref09_Binds.l0 k1 a1 (wrap64 (x5_1 + 1)) a0_0 l0_1 l0_2)) = some r := H
      have A8 := Aside0.mk A80
      clear A80
      by_cases c9 : t107 = true
      ·subst c9
       have H1 : (some true) = some r := by rw [if_pos rfl] at H; exact H
       clear H
       have H := H1
       clear H1
       obtain rfl := Option.some.inj H
       have hcz10_0 : wr.cell? ⟨gb101, 0, none⟩ = some (.string a0_0) := (blk_cell BK101.out 0).trans rfl
       have hcz10_1 : wr.cell? ⟨gb101, 1, none⟩ = some (.slice A0_1 l0_1.length c0_1) := (blk_cell BK101.out 1).trans rfl
       have hcz10_2 : wr.cell? ⟨gb101, 2, none⟩ = some (.slice A0_2 l0_2.length c0_2) := (blk_cell BK101.out 2).trans rfl
       have hfz10_0 := blk_frozen BK101.out 0
       have hfz10_1 := blk_frozen BK101.out 1
       have hfz10_2 := blk_frozen BK101.out 2
       have p102 : 0 ≤ (x5_1 : Int) := of_decide_eq_true (by first | (with_reducible assumption) | assumption)
       have q102 : x5_1 < (l0_2.length : Int) := of_decide_eq_true (by first | (with_reducible assumption) | assumption)
       obtain ⟨ad102, A102_2, c102_2, e102, hx102_0, hx102_1, hx102_2, hx102_3, hx102_4, hx102_5, hx102_6, hx102_7, hx102_8, hx102_9, hx102_10, hx102_11, hx102_12, hx102_13, hl102_2, hi102_2⟩ := at_T47 HR0_2.out x5_1 p102 q102
       cases e102
       replace hx102_0 := (HB.out.cell (blt_ hx102_0)).trans hx102_0
       replace hx102_1 := (HB.out.cell (blt_ hx102_1)).trans hx102_1
       replace hx102_2 := (HB.out.cell (blt_ hx102_2)).trans hx102_2
       replace hx102_3 := (HB.out.cell (blt_ hx102_3)).trans hx102_3
       replace hx102_4 := (HB.out.cell (blt_ hx102_4)).trans hx102_4
       replace hx102_5 := (HB.out.cell (blt_ hx102_5)).trans hx102_5
       replace hx102_6 := (HB.out.cell (blt_ hx102_6)).trans hx102_6
       replace hx102_7 := (HB.out.cell (blt_ hx102_7)).trans hx102_7
       replace hx102_8 := (HB.out.cell (blt_ hx102_8)).trans hx102_8
       replace hx102_9 := (HB.out.cell (blt_ hx102_9)).trans hx102_9
       replace hx102_10 := (HB.out.cell (blt_ hx102_10)).trans hx102_10
       replace hx102_11 := (HB.out.cell (blt_ hx102_11)).trans hx102_11
       replace hx102_12 := (HB.out.cell (blt_ hx102_12)).trans hx102_12
       replace hx102_13 := (HB.out.cell (blt_ hx102_13)).trans hx102_13
       have HR102_2 := Aside0.mk hi102_2
       have HC102_2 := Aside0.mk hl102_2
       clear hi102_2 hl102_2
       replace p102 := eq_true p102
       replace q102 := eq_true q102
       have p103 : 0 ≤ (x5_1 : Int) := of_decide_eq_true (by first | (with_reducible assumption) | assumption)
       have q103 : x5_1 < (l0_2.length : Int) := of_decide_eq_true (by first | (with_reducible assumption) | assumption)
       obtain ⟨ad103, A103_2, c103_2, e103, hx103_0, hx103_1, hx103_2, hx103_3, hx103_4, hx103_5, hx103_6, hx103_7, hx103_8, hx103_9, hx103_10, hx103_11, hx103_12, hx103_13, hl103_2, hi103_2⟩ := at_T47 HR0_2.out x5_1 p103 q103
       obtain rfl : ad102 = ad103 := (by injection e103)
       replace hx103_0 := (HB.out.cell (blt_ hx103_0)).trans hx103_0
       replace hx103_1 := (HB.out.cell (blt_ hx103_1)).trans hx103_1
       replace hx103_2 := (HB.out.cell (blt_ hx103_2)).trans hx103_2
       replace hx103_3 := (HB.out.cell (blt_ hx103_3)).trans hx103_3
       replace hx103_4 := (HB.out.cell (blt_ hx103_4)).trans hx103_4
       replace hx103_5 := (HB.out.cell (blt_ hx103_5)).trans hx103_5
       replace hx103_6 := (HB.out.cell (blt_ hx103_6)).trans hx103_6
       replace hx103_7 := (HB.out.cell (blt_ hx103_7)).trans hx103_7
       replace hx103_8 := (HB.out.cell (blt_ hx103_8)).trans hx103_8
       replace hx103_9 := (HB.out.cell (blt_ hx103_9)).trans hx103_9
       replace hx103_10 := (HB.out.cell (blt_ hx103_10)).trans hx103_10
       replace hx103_11 := (HB.out.cell (blt_ hx103_11)).trans hx103_11
       replace hx103_12 := (HB.out.cell (blt_ hx103_12)).trans hx103_12
       replace hx103_13 := (HB.out.cell (blt_ hx103_13)).trans hx103_13
       have HR103_2 := Aside0.mk hi103_2
       have HC103_2 := Aside0.mk hl103_2
       clear hi103_2 hl103_2
       replace p103 := eq_true p103
       replace q103 := eq_true q103
       have ea_ := Option.some.inj (hx102_2.symm.trans hx103_2)
       injection ea_ with ea_ en_ ec_
       subst ea_
       subst ec_
       clear en_
       go_wp2_with (first | (go_at_call 22; (with_reducible refine (lambrequinref09_Vars.calls k1 ((rd_T47 l0_2 x5_1).atom.pred) _ _ ((rd_T47 l0_2 x5_1).atom.args) t104 _ ?side1 ?side2 A7.out).mono ?_); (case side1 => repeat (first | exact (Kd.C_below HR103_2.out HB.out) | (with_reducible refine Kd.C_alloc ?_ _) | (with_reducible refine Kd.C_drewN ?_ _) | (with_reducible refine Kd.C_drew ?_))); (case side2 => exact HC103_2.out); rintro e w11 ⟨v105, rfl, ho0, hb⟩; have n0_ := Aside0.mk (Kd.R_lower ho0 (below_size (by repeat (first | (with_reducible first | exact HB.out | apply below_alloc | apply pw_below_drewN | apply below_drew1 | refine below_set ?_ GE101.out) | exact HB.out)))); have n1_ := Aside0.mk (blk_below (g := gb101) (o := .cells #[.string a0_0, .slice A0_1 l0_1.length c0_1, .slice (some ad102) l0_2.length c0_2] 27 (0, 0)) (by (with_reducible repeat (first | refine blk_drewN ?_ _ | refine blk_drew ?_ | refine blk_alloc ?_ _)); exact BK101.out) hb); have n2_ := Aside0.mk (below_step (by repeat (first | (with_reducible first | exact HB.out | apply below_alloc | apply pw_below_drewN | apply below_drew1 | refine below_set ?_ GE101.out) | exact HB.out)) hb); clear BK101; clear HB; have HO106 := n0_; have BK101 := n1_; have HB := n2_; clear n0_ n1_ n2_; (try clear hb); (try clear hb2); (try clear hk); (try clear hi); (try clear ho0); obtain ⟨Ao12, co12, eo12⟩ := Kd.R_slice HO106.out; subst eo12) | (go_at_call 32; (with_reducible refine (lambrequinref09_In.calls k1 _ _ t104 a1 true _ ?side1 ?side2 A8.out).mono ?_); (case side1 => repeat (first | exact (Kd.R_reads' HO106.out).2.2 | (with_reducible refine Kd.C_alloc ?_ _) | (with_reducible refine Kd.C_drewN ?_ _) | (with_reducible refine Kd.C_drew ?_))); (case side2 => exact (Kd.R_reads' HO106.out).2.1); rintro e w' ⟨rfl, ⟨nd, rfl⟩⟩))
       go_ret
       exact ⟨by first | rfl | (simp [errW_none, errW_some] <;> rfl) | (simp [*, errW_none, errW_some] <;> rfl), by repeat (first | (with_reducible first | exact HB.out | apply below_alloc | apply pw_below_drewN | apply below_drew1 | refine below_set ?_ GE101.out) | exact HB.out)⟩
      ·replace c9 := Bool.eq_false_iff.mpr c9
       subst c9
       have H1 : (lambrequinref09_Binds.l0 k1 a1 (wrap64 (x5_1 + 1)) a0_0 l0_1 l0_2) = some r := by rw [if_neg (show ¬ (false = true) by decide)] at H; exact H
       clear H
       have H := H1
       clear H1
       have H' := Aside0.mk H
       clear H
       have hcz13_0 : wr.cell? ⟨gb101, 0, none⟩ = some (.string a0_0) := (blk_cell BK101.out 0).trans rfl
       have hcz13_1 : wr.cell? ⟨gb101, 1, none⟩ = some (.slice A0_1 l0_1.length c0_1) := (blk_cell BK101.out 1).trans rfl
       have hcz13_2 : wr.cell? ⟨gb101, 2, none⟩ = some (.slice A0_2 l0_2.length c0_2) := (blk_cell BK101.out 2).trans rfl
       have hfz13_0 := blk_frozen BK101.out 0
       have hfz13_1 := blk_frozen BK101.out 1
       have hfz13_2 := blk_frozen BK101.out 2
       have p102 : 0 ≤ (x5_1 : Int) := of_decide_eq_true (by first | (with_reducible assumption) | assumption)
       have q102 : x5_1 < (l0_2.length : Int) := of_decide_eq_true (by first | (with_reducible assumption) | assumption)
       obtain ⟨ad102, A102_2, c102_2, e102, hx102_0, hx102_1, hx102_2, hx102_3, hx102_4, hx102_5, hx102_6, hx102_7, hx102_8, hx102_9, hx102_10, hx102_11, hx102_12, hx102_13, hl102_2, hi102_2⟩ := at_T47 HR0_2.out x5_1 p102 q102
       cases e102
       replace hx102_0 := (HB.out.cell (blt_ hx102_0)).trans hx102_0
       replace hx102_1 := (HB.out.cell (blt_ hx102_1)).trans hx102_1
       replace hx102_2 := (HB.out.cell (blt_ hx102_2)).trans hx102_2
       replace hx102_3 := (HB.out.cell (blt_ hx102_3)).trans hx102_3
       replace hx102_4 := (HB.out.cell (blt_ hx102_4)).trans hx102_4
       replace hx102_5 := (HB.out.cell (blt_ hx102_5)).trans hx102_5
       replace hx102_6 := (HB.out.cell (blt_ hx102_6)).trans hx102_6
       replace hx102_7 := (HB.out.cell (blt_ hx102_7)).trans hx102_7
       replace hx102_8 := (HB.out.cell (blt_ hx102_8)).trans hx102_8
       replace hx102_9 := (HB.out.cell (blt_ hx102_9)).trans hx102_9
       replace hx102_10 := (HB.out.cell (blt_ hx102_10)).trans hx102_10
       replace hx102_11 := (HB.out.cell (blt_ hx102_11)).trans hx102_11
       replace hx102_12 := (HB.out.cell (blt_ hx102_12)).trans hx102_12
       replace hx102_13 := (HB.out.cell (blt_ hx102_13)).trans hx102_13
       have HR102_2 := Aside0.mk hi102_2
       have HC102_2 := Aside0.mk hl102_2
       clear hi102_2 hl102_2
       replace p102 := eq_true p102
       replace q102 := eq_true q102
       have p103 : 0 ≤ (x5_1 : Int) := of_decide_eq_true (by first | (with_reducible assumption) | assumption)
       have q103 : x5_1 < (l0_2.length : Int) := of_decide_eq_true (by first | (with_reducible assumption) | assumption)
       obtain ⟨ad103, A103_2, c103_2, e103, hx103_0, hx103_1, hx103_2, hx103_3, hx103_4, hx103_5, hx103_6, hx103_7, hx103_8, hx103_9, hx103_10, hx103_11, hx103_12, hx103_13, hl103_2, hi103_2⟩ := at_T47 HR0_2.out x5_1 p103 q103
       obtain rfl : ad102 = ad103 := (by injection e103)
       replace hx103_0 := (HB.out.cell (blt_ hx103_0)).trans hx103_0
       replace hx103_1 := (HB.out.cell (blt_ hx103_1)).trans hx103_1
       replace hx103_2 := (HB.out.cell (blt_ hx103_2)).trans hx103_2
       replace hx103_3 := (HB.out.cell (blt_ hx103_3)).trans hx103_3
       replace hx103_4 := (HB.out.cell (blt_ hx103_4)).trans hx103_4
       replace hx103_5 := (HB.out.cell (blt_ hx103_5)).trans hx103_5
       replace hx103_6 := (HB.out.cell (blt_ hx103_6)).trans hx103_6
       replace hx103_7 := (HB.out.cell (blt_ hx103_7)).trans hx103_7
       replace hx103_8 := (HB.out.cell (blt_ hx103_8)).trans hx103_8
       replace hx103_9 := (HB.out.cell (blt_ hx103_9)).trans hx103_9
       replace hx103_10 := (HB.out.cell (blt_ hx103_10)).trans hx103_10
       replace hx103_11 := (HB.out.cell (blt_ hx103_11)).trans hx103_11
       replace hx103_12 := (HB.out.cell (blt_ hx103_12)).trans hx103_12
       replace hx103_13 := (HB.out.cell (blt_ hx103_13)).trans hx103_13
       have HR103_2 := Aside0.mk hi103_2
       have HC103_2 := Aside0.mk hl103_2
       clear hi103_2 hl103_2
       replace p103 := eq_true p103
       replace q103 := eq_true q103
       have ea_ := Option.some.inj (hx102_2.symm.trans hx103_2)
       injection ea_ with ea_ en_ ec_
       subst ea_
       subst ec_
       clear en_
       go_wp2_with (first | (go_at_call 22; (with_reducible refine (lambrequinref09_Vars.calls k1 ((rd_T47 l0_2 x5_1).atom.pred) _ _ ((rd_T47 l0_2 x5_1).atom.args) t104 _ ?side1 ?side2 A7.out).mono ?_); (case side1 => repeat (first | exact (Kd.C_below HR103_2.out HB.out) | (with_reducible refine Kd.C_alloc ?_ _) | (with_reducible refine Kd.C_drewN ?_ _) | (with_reducible refine Kd.C_drew ?_))); (case side2 => exact HC103_2.out); rintro e w14 ⟨v105, rfl, ho0, hb⟩; have n0_ := Aside0.mk (Kd.R_lower ho0 (below_size (by repeat (first | (with_reducible first | exact HB.out | apply below_alloc | apply pw_below_drewN | apply below_drew1 | refine below_set ?_ GE101.out) | exact HB.out)))); have n1_ := Aside0.mk (blk_below (g := gb101) (o := .cells #[.string a0_0, .slice A0_1 l0_1.length c0_1, .slice (some ad102) l0_2.length c0_2] 27 (0, 0)) (by (with_reducible repeat (first | refine blk_drewN ?_ _ | refine blk_drew ?_ | refine blk_alloc ?_ _)); exact BK101.out) hb); have n2_ := Aside0.mk (below_step (by repeat (first | (with_reducible first | exact HB.out | apply below_alloc | apply pw_below_drewN | apply below_drew1 | refine below_set ?_ GE101.out) | exact HB.out)) hb); clear BK101; clear HB; have HO106 := n0_; have BK101 := n1_; have HB := n2_; clear n0_ n1_ n2_; (try clear hb); (try clear hb2); (try clear hk); (try clear hi); (try clear ho0); obtain ⟨Ao15, co15, eo15⟩ := Kd.R_slice HO106.out; subst eo15) | (go_at_call 32; (with_reducible refine (lambrequinref09_In.calls k1 _ _ t104 a1 false _ ?side1 ?side2 A8.out).mono ?_); (case side1 => repeat (first | exact (Kd.R_reads' HO106.out).2.2 | (with_reducible refine Kd.C_alloc ?_ _) | (with_reducible refine Kd.C_drewN ?_ _) | (with_reducible refine Kd.C_drew ?_))); (case side2 => exact (Kd.R_reads' HO106.out).2.1); rintro e w' ⟨rfl, ⟨nd, rfl⟩⟩))
       go_roundg k1
       case measure => have := HK1.out; omega
       case rel => exact ⟨(wrap64 (x5_1 + 1)), (by first | rfl | (simp; done) | (simp [*]; done)), H', ⟨by have := HK1.out; omega⟩, ⟨by (with_reducible repeat (first | refine blk_drewN ?_ _ | refine blk_drew ?_ | refine blk_alloc ?_ _)); exact BK101.out⟩, ⟨by repeat (first | (with_reducible first | exact HB.out | apply below_alloc | apply pw_below_drewN | apply below_drew1 | refine below_set ?_ GE101.out) | exact HB.out)⟩⟩
     ·rw [if_neg c6] at H
      have c6b0 : (((rd_T47 l0_2 x5_1).kind) == 1) = false := beq_eq_false_iff_ne.mpr c6
      have c6b1 : (((rd_T47 l0_2 x5_1).kind) != 1) = true := bne_iff_ne.mpr c6
      have H' := Aside0.mk H
      clear H
      have hcz16_0 : wr.cell? ⟨gb101, 0, none⟩ = some (.string a0_0) := (blk_cell BK101.out 0).trans rfl
      have hcz16_1 : wr.cell? ⟨gb101, 1, none⟩ = some (.slice A0_1 l0_1.length c0_1) := (blk_cell BK101.out 1).trans rfl
      have hcz16_2 : wr.cell? ⟨gb101, 2, none⟩ = some (.slice A0_2 l0_2.length c0_2) := (blk_cell BK101.out 2).trans rfl
      have hfz16_0 := blk_frozen BK101.out 0
      have hfz16_1 := blk_frozen BK101.out 1
      have hfz16_2 := blk_frozen BK101.out 2
      have p102 : 0 ≤ (x5_1 : Int) := of_decide_eq_true (by first | (with_reducible assumption) | assumption)
      have q102 : x5_1 < (l0_2.length : Int) := of_decide_eq_true (by first | (with_reducible assumption) | assumption)
      obtain ⟨ad102, A102_2, c102_2, e102, hx102_0, hx102_1, hx102_2, hx102_3, hx102_4, hx102_5, hx102_6, hx102_7, hx102_8, hx102_9, hx102_10, hx102_11, hx102_12, hx102_13, hl102_2, hi102_2⟩ := at_T47 HR0_2.out x5_1 p102 q102
      cases e102
      replace hx102_0 := (HB.out.cell (blt_ hx102_0)).trans hx102_0
      replace hx102_1 := (HB.out.cell (blt_ hx102_1)).trans hx102_1
      replace hx102_2 := (HB.out.cell (blt_ hx102_2)).trans hx102_2
      replace hx102_3 := (HB.out.cell (blt_ hx102_3)).trans hx102_3
      replace hx102_4 := (HB.out.cell (blt_ hx102_4)).trans hx102_4
      replace hx102_5 := (HB.out.cell (blt_ hx102_5)).trans hx102_5
      replace hx102_6 := (HB.out.cell (blt_ hx102_6)).trans hx102_6
      replace hx102_7 := (HB.out.cell (blt_ hx102_7)).trans hx102_7
      replace hx102_8 := (HB.out.cell (blt_ hx102_8)).trans hx102_8
      replace hx102_9 := (HB.out.cell (blt_ hx102_9)).trans hx102_9
      replace hx102_10 := (HB.out.cell (blt_ hx102_10)).trans hx102_10
      replace hx102_11 := (HB.out.cell (blt_ hx102_11)).trans hx102_11
      replace hx102_12 := (HB.out.cell (blt_ hx102_12)).trans hx102_12
      replace hx102_13 := (HB.out.cell (blt_ hx102_13)).trans hx102_13
      have HR102_2 := Aside0.mk hi102_2
      have HC102_2 := Aside0.mk hl102_2
      clear hi102_2 hl102_2
      replace p102 := eq_true p102
      replace q102 := eq_true q102
      go_wp2
      go_roundg k1
      case measure => have := HK1.out; omega
      case rel => exact ⟨(wrap64 (x5_1 + 1)), (by first | rfl | (simp; done) | (simp [*]; done)), H', ⟨by have := HK1.out; omega⟩, ⟨by (with_reducible repeat (first | refine blk_drewN ?_ _ | refine blk_drew ?_ | refine blk_alloc ?_ _)); exact BK101.out⟩, ⟨by repeat (first | (with_reducible first | exact HB.out | apply below_alloc | apply pw_below_drewN | apply below_drew1 | refine below_set ?_ GE101.out) | exact HB.out)⟩⟩
    ·rw [if_neg c5] at H
     exact absurd H (by simp)
   ·rw [if_neg c4] at H
    have c4b0 : decide (x5_1 < (l0_2.length : Int)) = false := decide_eq_false c4
    clear c4
    obtain rfl := Option.some.inj H
    have hcz17_0 : wr.cell? ⟨gb101, 0, none⟩ = some (.string a0_0) := (blk_cell BK101.out 0).trans rfl
    have hcz17_1 : wr.cell? ⟨gb101, 1, none⟩ = some (.slice A0_1 l0_1.length c0_1) := (blk_cell BK101.out 1).trans rfl
    have hcz17_2 : wr.cell? ⟨gb101, 2, none⟩ = some (.slice A0_2 l0_2.length c0_2) := (blk_cell BK101.out 2).trans rfl
    have hfz17_0 := blk_frozen BK101.out 0
    have hfz17_1 := blk_frozen BK101.out 1
    have hfz17_2 := blk_frozen BK101.out 2
    go_wp2
    go_ret
    exact ⟨by first | rfl | (simp [errW_none, errW_some] <;> rfl) | (simp [*, errW_none, errW_some] <;> rfl), by repeat (first | (with_reducible first | exact HB.out | apply below_alloc | apply pw_below_drewN | apply below_drew1 | refine below_set ?_ GE101.out) | exact HB.out)⟩

end Go.Proofs.Ythpejcnldecmoaa.H
-- made by a program of this session (wip/tools) out of the translation; Lean checks it.
namespace Go.Proofs.Ythpejcnldecmoaa.H
open Go.RowKit Go.Proofs.YthpejcnldecmoaaW.PrintWords Go.Proofs.YthpejcnldecmoaaW.PrintLast Go.Proofs.YthpejcnldecmoaaW.PrintMore
attribute [local go_sem] max2_int min2_int max_two min_two max_three min_three max_four min_four   -- for this text's walks alone
set_option linter.unusedVariables false
set_option linter.unusedSimpArgs false

/-! ### lambrequinlaw09_SafeJust: function 8 -/
mutual
def lambrequinlaw09_SafeJust.l0 : Nat → Bool → List (Term) → Int → ByteArray → List (Term) → List (Liter) → Option (Bool)
 | 0, _, _, _, _, _, _ => none
 | k + 1, x3, x4, x5, x102000, x102001, x102002 => if x5 < (x102002.length : Int) then (if 0 ≤ x5 then (if ((rd_T47 x102002 x5).kind) = 2 then (if x4.length + ((rd_T47 x102002 x5).atom.args).length < 2513169434916 then ((some (x4 ++ ((rd_T47 x102002 x5).atom.args) : List (Term))).bind fun y112 => (if ((rd_T47 x102002 x5).kind) = 3 then ((some (([(⟨(rd_T47 x102002 x5).l.isVar, (rd_T47 x102002 x5).l.name, (⟨(rd_T47 x102002 x5).l.val.isSym, (rd_T47 x102002 x5).l.val.sym, (rd_T47 x102002 x5).l.val.n⟩ : Val)⟩ : Term), (⟨(rd_T47 x102002 x5).r.isVar, (rd_T47 x102002 x5).r.name, (⟨(rd_T47 x102002 x5).r.val.isSym, (rd_T47 x102002 x5).r.val.sym, (rd_T47 x102002 x5).r.val.n⟩ : Val)⟩ : Term)] : List (Term)) : List (Term))).bind fun y115 => (if y112.length + y115.length < 2513169434916 then (lambrequinlaw09_SafeJust.l0 k x3 (y112 ++ y115) (wrap64 (x5 + 1)) x102000 x102001 x102002) else (none))) else (lambrequinlaw09_SafeJust.l0 k x3 y112 (wrap64 (x5 + 1)) x102000 x102001 x102002))) else (none)) else (if ((rd_T47 x102002 x5).kind) = 3 then ((some (([(⟨(rd_T47 x102002 x5).l.isVar, (rd_T47 x102002 x5).l.name, (⟨(rd_T47 x102002 x5).l.val.isSym, (rd_T47 x102002 x5).l.val.sym, (rd_T47 x102002 x5).l.val.n⟩ : Val)⟩ : Term), (⟨(rd_T47 x102002 x5).r.isVar, (rd_T47 x102002 x5).r.name, (⟨(rd_T47 x102002 x5).r.val.isSym, (rd_T47 x102002 x5).r.val.sym, (rd_T47 x102002 x5).r.val.n⟩ : Val)⟩ : Term)] : List (Term)) : List (Term))).bind fun y121 => (if x4.length + y121.length < 2513169434916 then (lambrequinlaw09_SafeJust.l0 k x3 (x4 ++ y121) (wrap64 (x5 + 1)) x102000 x102001 x102002) else (none))) else (lambrequinlaw09_SafeJust.l0 k x3 x4 (wrap64 (x5 + 1)) x102000 x102001 x102002))) else (none)) else (lambrequinlaw09_SafeJust.l1 k x3 x4 true 0 x102000 x102001 x102002)
def lambrequinlaw09_SafeJust.l1 : Nat → Bool → List (Term) → Bool → Int → ByteArray → List (Term) → List (Liter) → Option (Bool)
 | 0, _, _, _, _, _, _, _ => none
 | k + 1, x3, x4, x7, x8, x102000, x102001, x102002 => if x8 < (x4.length : Int) then (if x7 = true then (if 0 ≤ x8 then (if ((rd_T45 x4 x8).isVar = true) then ((lambrequinref09_Binds.f k x102000 x102001 x102002 ((rd_T45 x4 x8).name)).bind fun t129 => (lambrequinlaw09_SafeJust.l1 k x3 x4 t129 (wrap64 (x8 + 1)) x102000 x102001 x102002)) else (lambrequinlaw09_SafeJust.l1 k x3 x4 true (wrap64 (x8 + 1)) x102000 x102001 x102002)) else (none)) else (lambrequinlaw09_SafeJust.l1 k x3 x4 false (wrap64 (x8 + 1)) x102000 x102001 x102002)) else ((safe_Check.f k x102000 x102001 x102002).bind fun bt130 => (if x3 = true then (some ((bt130.2.2 == 0) == x7)) else (some false)))
end
def lambrequinlaw09_SafeJust.f (k : Nat) (a0_0 : ByteArray) (l0_1 : List (Term)) (l0_2 : List (Liter)) : Option (Bool) := (lambrequinlaw09_shown.f).bind fun t102 => ((lambrequinlaw09_few.f k a0_0 l0_1 l0_2).bind fun t103 => (if t103 = true then ((some (([] : List (Term)) : List (Term))).bind fun y104 => (if y104.length + l0_1.length < 2513169434916 then (lambrequinlaw09_SafeJust.l0 k t102 (y104 ++ l0_1) 0 a0_0 l0_1 l0_2) else (none))) else (some t102)))
theorem lambrequinlaw09_SafeJust.mono_l : ∀ k, (∀ y0 y1 y2 y3 y4 y5, LeO (lambrequinlaw09_SafeJust.l0 k y0 y1 y2 y3 y4 y5) (lambrequinlaw09_SafeJust.l0 (k + 1) y0 y1 y2 y3 y4 y5)) ∧ (∀ y0 y1 y2 y3 y4 y5 y6, LeO (lambrequinlaw09_SafeJust.l1 k y0 y1 y2 y3 y4 y5 y6) (lambrequinlaw09_SafeJust.l1 (k + 1) y0 y1 y2 y3 y4 y5 y6))
 | 0 => ⟨fun _ _ _ _ _ _ r h => by simp [lambrequinlaw09_SafeJust.l0] at h, fun _ _ _ _ _ _ _ r h => by simp [lambrequinlaw09_SafeJust.l1] at h⟩
 | k + 1 => by
  obtain ⟨ih0, ih1⟩ := lambrequinlaw09_SafeJust.mono_l k
  refine ⟨?_, ?_⟩
  ·intro y0 y1 y2 y3 y4 y5
   unfold lambrequinlaw09_SafeJust.l0
   repeat' first
   | (with_reducible exact ih0 _ _ _ _ _ _)
   | (with_reducible exact ih1 _ _ _ _ _ _ _)
   | (with_reducible exact lambrequinlaw09_few.mono _ _ _ _)
   | (with_reducible exact lambrequinref09_Binds.mono _ _ _ _ _)
   | (with_reducible exact safe_Check.mono _ _ _ _)
   | (with_reducible exact LeO.refl _)
   | (with_reducible exact LeO.none _)
   | (with_reducible refine LeO.ite ?_ ?_)
   | (with_reducible refine LeO.bind ?_ (fun _ => ?_))
   | exact ih0 _ _ _ _ _ _
   | exact ih1 _ _ _ _ _ _ _
   | exact lambrequinlaw09_few.mono _ _ _ _
   | exact lambrequinref09_Binds.mono _ _ _ _ _
   | exact safe_Check.mono _ _ _ _
   | exact LeO.none _
   | refine LeO.ite ?_ ?_
   | refine LeO.bind ?_ (fun _ => ?_)
  ·intro y0 y1 y2 y3 y4 y5 y6
   unfold lambrequinlaw09_SafeJust.l1
   repeat' first
   | (with_reducible exact ih0 _ _ _ _ _ _)
   | (with_reducible exact ih1 _ _ _ _ _ _ _)
   | (with_reducible exact lambrequinlaw09_few.mono _ _ _ _)
   | (with_reducible exact lambrequinref09_Binds.mono _ _ _ _ _)
   | (with_reducible exact safe_Check.mono _ _ _ _)
   | (with_reducible exact LeO.refl _)
   | (with_reducible exact LeO.none _)
   | (with_reducible refine LeO.ite ?_ ?_)
   | (with_reducible refine LeO.bind ?_ (fun _ => ?_))
   | exact ih0 _ _ _ _ _ _
   | exact ih1 _ _ _ _ _ _ _
   | exact lambrequinlaw09_few.mono _ _ _ _
   | exact lambrequinref09_Binds.mono _ _ _ _ _
   | exact safe_Check.mono _ _ _ _
   | exact LeO.none _
   | refine LeO.ite ?_ ?_
   | refine LeO.bind ?_ (fun _ => ?_)
theorem lambrequinlaw09_SafeJust.mono : ∀ a0 a1 a2 k, LeO (lambrequinlaw09_SafeJust.f k a0 a1 a2) (lambrequinlaw09_SafeJust.f (k + 1) a0 a1 a2) := by
 intro a0 a1 a2 k
 obtain ⟨ih0, ih1⟩ := lambrequinlaw09_SafeJust.mono_l k
 unfold lambrequinlaw09_SafeJust.f
 repeat' first
   | (with_reducible exact ih0 _ _ _ _ _ _)
   | (with_reducible exact ih1 _ _ _ _ _ _ _)
   | (with_reducible exact lambrequinlaw09_few.mono _ _ _ _)
   | (with_reducible exact lambrequinref09_Binds.mono _ _ _ _ _)
   | (with_reducible exact safe_Check.mono _ _ _ _)
   | (with_reducible exact LeO.refl _)
   | (with_reducible exact LeO.none _)
   | (with_reducible refine LeO.ite ?_ ?_)
   | (with_reducible refine LeO.bind ?_ (fun _ => ?_))
   | exact ih0 _ _ _ _ _ _
   | exact ih1 _ _ _ _ _ _ _
   | exact lambrequinlaw09_few.mono _ _ _ _
   | exact lambrequinref09_Binds.mono _ _ _ _ _
   | exact safe_Check.mono _ _ _ _
   | exact LeO.none _
   | refine LeO.ite ?_ ?_
   | refine LeO.bind ?_ (fun _ => ?_)
def lambrequinlaw09_SafeJust.T17 : Bool × List (List Nat × List Nat) := (true, [([], []), ([0], [0]), ([1], [1]), ([1], [1]), ([2, 3, 1], [1, 2, 3]), ([4, 1], [1, 4]), ([5, 1], [1, 5]), ([6, 1], [1, 6]), ([7, 1, 1], [1, 7]), ([8], [8]), ([8], [8]), ([8], [8]), ([10, 11, 8], [8, 10, 11]), ([12, 8], [8, 12]), ([13, 8], [8, 13]), ([9, 14, 8, 8], [8, 9, 14]), ([8, 15, 1], [1, 8, 15]), ([1, 16], [1, 16]), ([17, 15, 0, 1, 2, 3, 4, 5, 6, 7, 8, 9, 10, 11, 12, 13, 14, 15, 16, 17], [0, 17])])
def lambrequinlaw09_SafeJust.B17 : List Nat := [0, 1, 3, 3, 15, 31, 63, 127, 255, 511, 511, 511, 3583, 7679, 15871, 32767, 65535, 131071, 262143]
theorem lambrequinlaw09_SafeJust.tab17 : rtab .any (opsOf Try.f8 17) = lambrequinlaw09_SafeJust.T17 := by kernel_rfl
theorem lambrequinlaw09_SafeJust.bits17 : waitsOk lambrequinlaw09_SafeJust.T17.2 lambrequinlaw09_SafeJust.B17 = true := by kernel_rfl
set_option maxHeartbeats 8000000 in
set_option maxRecDepth 100000 in
theorem lambrequinlaw09_SafeJust.calls (k : Nat) (a0_0 : ByteArray) (A0_1 : Option Addr) (c0_1 : Nat) (l0_1 : List (Term)) (A0_2 : Option Addr) (c0_2 : Nat) (l0_2 : List (Liter)) (r : Bool) (w : World) (hr0_1 : Kd.C k45 w A0_1 l0_1.length l0_1) (hc0_1 : l0_1.length ≤ c0_1) (hr0_2 : Kd.C k47 w A0_2 l0_2.length l0_2) (hc0_2 : l0_2.length ≤ c0_2) (h : lambrequinlaw09_SafeJust.f k a0_0 l0_1 l0_2 = some r) :
  Calls Try.prog 8 #[.agg #[.string a0_0, .slice A0_1 l0_1.length c0_1, .slice A0_2 l0_2.length c0_2]] w fun e w' => e = .returned (.bool r) ∧ Below w.heap.size w w' := by
 have hu27 := Try.underlying27
 have hu47 := Try.underlying47
 have hu45 := Try.underlying45
 have HR0_1 := Aside0.mk hr0_1
 have HC0_1 := Aside0.mk hc0_1
 clear hr0_1 hc0_1
 have HR0_2 := Aside0.mk hr0_2
 have HC0_2 := Aside0.mk hc0_2
 clear hr0_2 hc0_2
 have HB := Aside0.mk (Below.refl w.heap.size w)
 have H : ((lambrequinlaw09_shown.f).bind fun t102 => ((lambrequinlaw09_few.f k a0_0 l0_1 l0_2).bind fun t103 => (if t103 = true then ((some (([] : List (Term)) : List (Term))).bind fun y104 => (if y104.length + l0_1.length < 2513169434916 then (lambrequinlaw09_SafeJust.l0 k t102 (y104 ++ l0_1) 0 a0_0 l0_1 l0_2) else (none))) else (some t102)))) = some r := h
 clear h
 replace H := Option.bind_eq_some_iff.mp H
 obtain ⟨t102, A20, H⟩ := H
 replace H : ((lambrequinlaw09_few.f k a0_0 l0_1 l0_2).bind fun t103 => (if t103 = true then ((some (([] : List (Term)) : List (Term))).bind fun y104 => (if y104.length + l0_1.length < 2513169434916 then (lambrequinlaw09_SafeJust.l0 k t102 (y104 ++ l0_1) 0 a0_0 l0_1 l0_2) else (none))) else (some t102))) = some r := H
 have A2 := Aside0.mk A20
 clear A20
 replace H := Option.bind_eq_some_iff.mp H
 obtain ⟨t103, A30, H⟩ := H
 replace H : (if t103 = true then ((some (([] : List (Term)) : List (Term))).bind fun y104 => (if y104.length + l0_1.length < 2513169434916 then (lambrequinlaw09_SafeJust.l0 k t102 (y104 ++ l0_1) 0 a0_0 l0_1 l0_2) else (none))) else (some t102)) = some r := H
 have A3 := Aside0.mk A30
 clear A30
 by_cases c4 : t103 = true
 ·subst c4
  have H1 : ((some (([] : List (Term)) : List (Term))).bind fun y104 => (if y104.length + l0_1.length < 2513169434916 then (lambrequinlaw09_SafeJust.l0 k t102 (y104 ++ l0_1) 0 a0_0 l0_1 l0_2) else (none))) = some r := by rw [if_pos rfl] at H; exact H
  clear H
  have H := H1
  clear H1
  obtain ⟨y104, hy104⟩ : ∃ y_ : List (Term), y_ = (([] : List (Term))) := ⟨_, rfl⟩
  replace H : (if y104.length + l0_1.length < 2513169434916 then (lambrequinlaw09_SafeJust.l0 k t102 (y104 ++ l0_1) 0 a0_0 l0_1 l0_2) else (none)) = some r := by first | (rw [hy104]; with_reducible exact H) | (have H2_ := (Option.bind_some _ _).symm.trans H; rw [hy104]; with_reducible exact H2_) | (have H2_ := (Option.bind_some _ _).symm.trans H; with_reducible exact H2_) | with_reducible exact H | (rw [hy104]; exact H) | exact H
  have Ny104 := Aside0.mk hy104
  clear hy104
  by_cases c5 : y104.length + l0_1.length < 2513169434916
  ·rw [if_pos c5] at H
   have LMc5 := Aside0.mk c5
   clear c5
   obtain ⟨y107, hy107⟩ : ∃ y_ : List (Term), y_ = (y104 ++ l0_1) := ⟨_, rfl⟩
   replace H : (lambrequinlaw09_SafeJust.l0 k t102 y107 0 a0_0 l0_1 l0_2) = some r := by first | (rw [hy107]; with_reducible exact H) | (have H2_ := (Option.bind_some _ _).symm.trans H; rw [hy107]; with_reducible exact H2_) | (have H2_ := (Option.bind_some _ _).symm.trans H; with_reducible exact H2_) | with_reducible exact H | (rw [hy107]; exact H) | exact H
   have Ny107 := Aside0.mk hy107
   clear hy107
   have H' := Aside0.mk H
   clear H
   go_enter Try.func8, Try.ntmps8
   go_wp2_with (first | ((with_reducible refine gate_dst (N := 1) rfl ?_); refine box_event ?hg (N := 1) ?hd (cs := #[.string a0_0, .slice A0_1 l0_1.length c0_1, .slice A0_2 l0_2.length c0_2]) (t := 27) ?hr ?_; (case hd => rfl); (case hg => rfl); (case hr => first | (go_simp; done) | (go_simp; rfl)); intro gb101 hg w6 hbox hb; have n0_ := Aside0.mk (below_step (by repeat (first | (with_reducible first | exact HB.out | apply below_alloc | apply pw_below_drewN | apply below_drew1) | exact HB.out)) hb); have n1_ := Aside0.mk (hbox); have n2_ := Aside0.mk ((by rw [hg]; exact (below_size (by repeat (first | (with_reducible first | exact HB.out | apply below_alloc | apply pw_below_drewN | apply below_drew1) | exact HB.out))) : w.heap.size ≤ gb101)); have n3_ := Aside0.mk ((by rw [hg]; exact (below_size (by repeat (first | (with_reducible first | exact HB.out | apply below_alloc | apply pw_below_drewN | apply below_drew1) | exact HB.out))) : w.heap.size ≤ gb101)); clear HB; have HB := n0_; have BK101 := n1_; have GW101 := n2_; have GE101 := n3_; clear n0_ n1_ n2_ n3_; clear hb hbox hg) | ((with_reducible refine gate_callee (f := 25) rfl ?_); refine goesL_ (some 12) rfl rfl Try.func25 (by kernel_rfl) rfl #[] rfl (by (try simp only [List.map_toArray, List.map_cons, List.map_nil]); first | done | rfl | (simp only [List.length_drop, List.length_take]; rfl)) ?_; (with_reducible refine (lambrequinlaw09_shown.calls  t102 _ A2.out).mono ?_); rintro e w7 ⟨rfl, hb⟩; refine ⟨_, rfl, ?_⟩; have n0_ := Aside0.mk (blk_below (g := gb101) (o := .cells #[.string a0_0, .slice A0_1 l0_1.length c0_1, .slice A0_2 l0_2.length c0_2] 27 (0, 0)) (by (with_reducible repeat (first | refine blk_drewN ?_ _ | refine blk_drew ?_ | refine blk_alloc ?_ _)); exact BK101.out) hb); have n1_ := Aside0.mk (below_step (by repeat (first | (with_reducible first | exact HB.out | apply below_alloc | apply pw_below_drewN | apply below_drew1 | refine below_set ?_ GE101.out) | exact HB.out)) hb); clear BK101; clear HB; have BK101 := n0_; have HB := n1_; clear n0_ n1_; (try clear hb); (try clear hb2); (try clear hk); (try clear hi); have hcz8_0 : w7.cell? ⟨gb101, 0, none⟩ = some (.string a0_0) := (blk_cell BK101.out 0).trans rfl; have hcz8_1 : w7.cell? ⟨gb101, 1, none⟩ = some (.slice A0_1 l0_1.length c0_1) := (blk_cell BK101.out 1).trans rfl; have hcz8_2 : w7.cell? ⟨gb101, 2, none⟩ = some (.slice A0_2 l0_2.length c0_2) := (blk_cell BK101.out 2).trans rfl; have hfz8_0 := blk_frozen BK101.out 0; have hfz8_1 := blk_frozen BK101.out 1; have hfz8_2 := blk_frozen BK101.out 2) | ((with_reducible refine gate_callee (f := 26) rfl ?_); refine goesL_ (some 14) rfl rfl Try.func26 (by kernel_rfl) rfl #[.agg #[.string a0_0, .slice A0_1 l0_1.length c0_1, .slice A0_2 l0_2.length c0_2]] rfl (by (try simp only [List.map_toArray, List.map_cons, List.map_nil]); first | done | rfl | (simp only [List.length_drop, List.length_take]; rfl)) ?_; (with_reducible refine (lambrequinlaw09_few.calls k a0_0 _ _ l0_1 _ _ l0_2 true _ ?side1 ?side2 ?side3 ?side4 A3.out).mono ?_); (case side1 => repeat (first | exact (Kd.C_below HR0_1.out HB.out) | (with_reducible refine Kd.C_alloc ?_ _) | (with_reducible refine Kd.C_drewN ?_ _) | (with_reducible refine Kd.C_drew ?_))); (case side2 => exact HC0_1.out); (case side3 => repeat (first | exact (Kd.C_below HR0_2.out HB.out) | (with_reducible refine Kd.C_alloc ?_ _) | (with_reducible refine Kd.C_drewN ?_ _) | (with_reducible refine Kd.C_drew ?_))); (case side4 => exact HC0_2.out); rintro e w9 ⟨rfl, hb⟩; refine ⟨_, rfl, ?_⟩; have n0_ := Aside0.mk (blk_below (g := gb101) (o := .cells #[.string a0_0, .slice A0_1 l0_1.length c0_1, .slice A0_2 l0_2.length c0_2] 27 (0, 0)) (by (with_reducible repeat (first | refine blk_drewN ?_ _ | refine blk_drew ?_ | refine blk_alloc ?_ _)); exact BK101.out) hb); have n1_ := Aside0.mk (below_step (by repeat (first | (with_reducible first | exact HB.out | apply below_alloc | apply pw_below_drewN | apply below_drew1 | refine below_set ?_ GE101.out) | exact HB.out)) hb); clear BK101; clear HB; have BK101 := n0_; have HB := n1_; clear n0_ n1_; (try clear hb); (try clear hb2); (try clear hk); (try clear hi)) | ((with_reducible refine gate_dst (N := 17) rfl ?_); refine Kd.R_lit k45 _ 45 ?hg (N := 17) ?hd (xs := ([] : List (Term))) (inner := []) (ok := fun _ => True) (okp := fun _ => True) ?hr ?hp (fun _ hk => hk) trivial (Below.refl _ _) (Nat.le_refl _) (by simp) ?_; (case hd => rfl); (case hg => rfl); (case hr => first | (go_simp; done) | (go_simp; rfl)); (case hp => exact (Reps.none _ _)); intro v105 w10 ho11 hb hg_ hnew_; clear hg_ hnew_; (first | rw [← Ny104.out] at ho11 | (simp only [Int.reduceToNat] at ho11; rw [← Ny104.out] at ho11)); have n0_ := Aside0.mk (Kd.R_lower ho11 (below_size (by repeat (first | (with_reducible first | exact HB.out | apply below_alloc | apply pw_below_drewN | apply below_drew1 | refine below_set ?_ GE101.out) | exact HB.out)))); have n1_ := Aside0.mk (blk_below (g := gb101) (o := .cells #[.string a0_0, .slice A0_1 l0_1.length c0_1, .slice A0_2 l0_2.length c0_2] 27 (0, 0)) (by (with_reducible repeat (first | refine blk_drewN ?_ _ | refine blk_drew ?_ | refine blk_alloc ?_ _)); exact BK101.out) hb); have n2_ := Aside0.mk (below_step (by repeat (first | (with_reducible first | exact HB.out | apply below_alloc | apply pw_below_drewN | apply below_drew1 | refine below_set ?_ GE101.out) | exact HB.out)) hb); clear BK101; clear HB; have HO106 := n0_; have BK101 := n1_; have HB := n2_; clear n0_ n1_ n2_; clear hb ho11; have hcz12_0 : w10.cell? ⟨gb101, 0, none⟩ = some (.string a0_0) := (blk_cell BK101.out 0).trans rfl; have hcz12_1 : w10.cell? ⟨gb101, 1, none⟩ = some (.slice A0_1 l0_1.length c0_1) := (blk_cell BK101.out 1).trans rfl; have hcz12_2 : w10.cell? ⟨gb101, 2, none⟩ = some (.slice A0_2 l0_2.length c0_2) := (blk_cell BK101.out 2).trans rfl; have hfz12_0 := blk_frozen BK101.out 0; have hfz12_1 := blk_frozen BK101.out 1; have hfz12_2 := blk_frozen BK101.out 2) | ((with_reducible refine gate_builtin (b := .append) (xs := #[.tmp 17, .tmp 20]) rfl ?_); at_builtin; refine Kd.R_append_rows k45 (w0 := w) w.heap.size rfl (.tmp 17) (.tmp 20) 22 45 (.agg #[(.bool false), (.string ⟨#[]⟩), (.bool false), (.string ⟨#[]⟩), (.int .i64 0)]) 56 rfl Try.underlying22 info45 rfl (by decide) (by omega) v105 y104 l0_1 _ _ _ (fun _ => True) (fun _ => False) rfl rfl ?aO ?aR (fun _ _ h => h) (fun _ h => h.elim) ?aF ?aB ?aS ?aL ?_; (case aR => repeat (first | exact (Kd.C_below HR0_1.out HB.out) | (with_reducible refine Kd.C_alloc ?_ _) | (with_reducible refine Kd.C_drewN ?_ _) | (with_reducible refine Kd.C_drew ?_))); (case aB => exact (by repeat (first | (with_reducible first | exact HB.out | apply below_alloc | apply pw_below_drewN | apply below_drew1 | refine below_set ?_ GE101.out) | exact HB.out))); (case aF => exact (fun _ _ => trivial)); (case aO => exact (by (with_reducible repeat (first | apply Kd.R_alloc | apply Kd.R_drewN | apply Kd.R_drew)); exact HO106.out)); (case aS => exact (below_size (by repeat (first | (with_reducible first | exact HB.out | apply below_alloc | apply pw_below_drewN | apply below_drew1 | refine below_set ?_ GE101.out) | exact HB.out)))); (case aL => have := LMc5.out; omega); intro v108 w13 ho hb hg hat; rw [← Ny107.out] at ho; have n0_ := Aside0.mk (blk_grown (g := gb101) (o := .cells #[.string a0_0, .slice A0_1 l0_1.length c0_1, .slice A0_2 l0_2.length c0_2] 27 (0, 0)) (by (with_reducible repeat (first | refine blk_drewN ?_ _ | refine blk_drew ?_ | refine blk_alloc ?_ _)); exact BK101.out) hg (Kd.R_ne HO106.out BK101.out (by decide))); have n1_ := Aside0.mk (hb); have n2_ := Aside0.mk (ho); clear BK101; clear HB; clear HO106; have BK101 := n0_; have HB := n1_; have HO109 := n2_; clear n0_ n1_ n2_; clear ho hb hg hat))
   go_loopg [4, 5] k (fun kq v4 v5 w' => ∃ (x4_1 : List (Term)) (x5_1 : Int), v5 = .int .i64 x5_1 ∧ Aside0 (lambrequinlaw09_SafeJust.l0 kq t102 x4_1 x5_1 a0_0 l0_1 l0_2 = some r) ∧ Aside0 (kq ≤ k) ∧ Aside0 (Kd.R k45 45 w' w.heap.size (fun _ => True) v4 x4_1) ∧ Aside0 (w'.heap[gb101]? = some (.cells #[.string a0_0, (.slice A0_1 l0_1.length c0_1), (.slice A0_2 l0_2.length c0_2)] 27 (0, 0))) ∧ Aside0 (Below w.heap.size w w'))
   case atStart => exact ⟨(y107), (0), (by first | rfl | (simp; done) | (simp [*]; done)), H', ⟨Nat.le_refl _⟩, ⟨by (with_reducible repeat (first | apply Kd.R_alloc | apply Kd.R_drewN | apply Kd.R_drew)); exact HO109.out⟩, ⟨by (with_reducible repeat (first | refine blk_drewN ?_ _ | refine blk_drew ?_ | refine blk_alloc ?_ _)); exact BK101.out⟩, ⟨by repeat (first | (with_reducible first | exact HB.out | apply below_alloc | apply pw_below_drewN | apply below_drew1 | refine below_set ?_ GE101.out) | exact HB.out)⟩⟩
   case round =>
    clear H'
    try clear c2
    try clear p2
    try clear c4
    try clear c5
    try clear c8
    try clear hcz12_0
    try clear hcz12_1
    try clear hcz12_2
    try clear hcz8_0
    try clear hcz8_1
    try clear hcz8_2
    try clear hfz12_0
    try clear hfz12_1
    try clear hfz12_2
    try clear hfz8_0
    try clear hfz8_1
    try clear hfz8_2
    obtain ⟨x4_1, x5_1, rfl, HA, HK1, HO_4, BK101, HB⟩ := hrel
    cases gk with
    | zero => exact absurd HA.out (by simp [lambrequinlaw09_SafeJust.l0])
    | succ k1 =>
     have H := HA.out
     clear HA
     simp only [lambrequinlaw09_SafeJust.l0] at H
     by_cases c14 : x5_1 < (l0_2.length : Int)
     ·rw [if_pos c14] at H
      have c14b0 : decide (x5_1 < (l0_2.length : Int)) = true := decide_eq_true c14
      clear c14
      by_cases c15 : 0 ≤ x5_1
      ·rw [if_pos c15] at H
       have c15b0 : decide (0 ≤ x5_1) = true := decide_eq_true c15
       clear c15
       by_cases c16 : ((rd_T47 l0_2 x5_1).kind) = 2
       ·rw [if_pos c16] at H
        have c16b0 : (((rd_T47 l0_2 x5_1).kind) == 2) = true := beq_iff_eq.mpr c16
        have c16b1 : (((rd_T47 l0_2 x5_1).kind) != 2) = false := bne_eq_false_iff_eq.mpr c16
        clear c16
        by_cases c17 : x4_1.length + ((rd_T47 l0_2 x5_1).atom.args).length < 2513169434916
        ·rw [if_pos c17] at H
         have LMc17 := Aside0.mk c17
         clear c17
         obtain ⟨y112, hy112⟩ : ∃ y_ : List (Term), y_ = (x4_1 ++ ((rd_T47 l0_2 x5_1).atom.args)) := ⟨_, rfl⟩
         replace H : (if ((rd_T47 l0_2 x5_1).kind) = 3 then ((some (([(⟨(rd_T47 l0_2 x5_1).l.isVar, (rd_T47 l0_2 x5_1).l.name, (⟨(rd_T47 l0_2 x5_1).l.val.isSym, (rd_T47 l0_2 x5_1).l.val.sym, (rd_T47 l0_2 x5_1).l.val.n⟩ : Val)⟩ : Term), (⟨(rd_T47 l0_2 x5_1).r.isVar, (rd_T47 l0_2 x5_1).r.name, (⟨(rd_T47 l0_2 x5_1).r.val.isSym, (rd_T47 l0_2 x5_1).r.val.sym, (rd_T47 l0_2 x5_1).r.val.n⟩ : Val)⟩ : Term)] : List (Term)) : List (Term))).bind fun y115 => (if y112.length + y115.length < 2513169434916 then (lambrequinlaw09_SafeJust.l0 k1 t102 (y112 ++ y115) (wrap64 (x5_1 + 1)) a0_0 l0_1 l0_2) else (none))) else (lambrequinlaw09_SafeJust.l0 k1 t102 y112 (wrap64 (x5_1 + 1)) a0_0 l0_1 l0_2)) = some r := by first | (rw [hy112]; with_reducible exact H) | (have H2_ := (Option.bind_some _ _).symm.trans H; rw [hy112]; with_reducible exact H2_) | (have H2_ := (Option.bind_some _ _).symm.trans H; with_reducible exact H2_) | with_reducible exact H | (rw [hy112]; exact H) | exact H
         have Ny112 := Aside0.mk hy112
         clear hy112
         by_cases c18 : ((rd_T47 l0_2 x5_1).kind) = 3
         ·rw [if_pos c18] at H
          have c18b0 : (((rd_T47 l0_2 x5_1).kind) == 3) = true := beq_iff_eq.mpr c18
          have c18b1 : (((rd_T47 l0_2 x5_1).kind) != 3) = false := bne_eq_false_iff_eq.mpr c18
          clear c18
          obtain ⟨y115, hy115⟩ : ∃ y_ : List (Term), y_ = (([(⟨(rd_T47 l0_2 x5_1).l.isVar, (rd_T47 l0_2 x5_1).l.name, (⟨(rd_T47 l0_2 x5_1).l.val.isSym, (rd_T47 l0_2 x5_1).l.val.sym, (rd_T47 l0_2 x5_1).l.val.n⟩ : Val)⟩ : Term), (⟨(rd_T47 l0_2 x5_1).r.isVar, (rd_T47 l0_2 x5_1).r.name, (⟨(rd_T47 l0_2 x5_1).r.val.isSym, (rd_T47 l0_2 x5_1).r.val.sym, (rd_T47 l0_2 x5_1).r.val.n⟩ : Val)⟩ : Term)] : List (Term))) := ⟨_, rfl⟩
          replace H : (if y112.length + y115.length < 2513169434916 then (lambrequinlaw09_SafeJust.l0 k1 t102 (y112 ++ y115) (wrap64 (x5_1 + 1)) a0_0 l0_1 l0_2) else (none)) = some r := by first | (rw [hy115]; with_reducible exact H) | (have H2_ := (Option.bind_some _ _).symm.trans H; rw [hy115]; with_reducible exact H2_) | (have H2_ := (Option.bind_some _ _).symm.trans H; with_reducible exact H2_) | with_reducible exact H | (rw [hy115]; exact H) | exact H
          have Ny115 := Aside0.mk hy115
          clear hy115
          by_cases c19 : y112.length + y115.length < 2513169434916
          ·rw [if_pos c19] at H
           have LMc19 := Aside0.mk c19
           clear c19
           obtain ⟨y118, hy118⟩ : ∃ y_ : List (Term), y_ = (y112 ++ y115) := ⟨_, rfl⟩
           replace H : (lambrequinlaw09_SafeJust.l0 k1 t102 y118 (wrap64 (x5_1 + 1)) a0_0 l0_1 l0_2) = some r := by first | (rw [hy118]; with_reducible exact H) | (have H2_ := (Option.bind_some _ _).symm.trans H; rw [hy118]; with_reducible exact H2_) | (have H2_ := (Option.bind_some _ _).symm.trans H; with_reducible exact H2_) | with_reducible exact H | (rw [hy118]; exact H) | exact H
           have Ny118 := Aside0.mk hy118
           clear hy118
           have H' := Aside0.mk H
           clear H
           have hcz20_0 : wr.cell? ⟨gb101, 0, none⟩ = some (.string a0_0) := (blk_cell BK101.out 0).trans rfl
           have hcz20_1 : wr.cell? ⟨gb101, 1, none⟩ = some (.slice A0_1 l0_1.length c0_1) := (blk_cell BK101.out 1).trans rfl
           have hcz20_2 : wr.cell? ⟨gb101, 2, none⟩ = some (.slice A0_2 l0_2.length c0_2) := (blk_cell BK101.out 2).trans rfl
           have hfz20_0 := blk_frozen BK101.out 0
           have hfz20_1 := blk_frozen BK101.out 1
           have hfz20_2 := blk_frozen BK101.out 2
           have p110 : 0 ≤ (x5_1 : Int) := of_decide_eq_true (by first | (with_reducible assumption) | assumption)
           have q110 : x5_1 < (l0_2.length : Int) := of_decide_eq_true (by first | (with_reducible assumption) | assumption)
           obtain ⟨ad110, A110_2, c110_2, e110, hx110_0, hx110_1, hx110_2, hx110_3, hx110_4, hx110_5, hx110_6, hx110_7, hx110_8, hx110_9, hx110_10, hx110_11, hx110_12, hx110_13, hl110_2, hi110_2⟩ := at_T47 HR0_2.out x5_1 p110 q110
           cases e110
           replace hx110_0 := (HB.out.cell (blt_ hx110_0)).trans hx110_0
           replace hx110_1 := (HB.out.cell (blt_ hx110_1)).trans hx110_1
           replace hx110_2 := (HB.out.cell (blt_ hx110_2)).trans hx110_2
           replace hx110_3 := (HB.out.cell (blt_ hx110_3)).trans hx110_3
           replace hx110_4 := (HB.out.cell (blt_ hx110_4)).trans hx110_4
           replace hx110_5 := (HB.out.cell (blt_ hx110_5)).trans hx110_5
           replace hx110_6 := (HB.out.cell (blt_ hx110_6)).trans hx110_6
           replace hx110_7 := (HB.out.cell (blt_ hx110_7)).trans hx110_7
           replace hx110_8 := (HB.out.cell (blt_ hx110_8)).trans hx110_8
           replace hx110_9 := (HB.out.cell (blt_ hx110_9)).trans hx110_9
           replace hx110_10 := (HB.out.cell (blt_ hx110_10)).trans hx110_10
           replace hx110_11 := (HB.out.cell (blt_ hx110_11)).trans hx110_11
           replace hx110_12 := (HB.out.cell (blt_ hx110_12)).trans hx110_12
           replace hx110_13 := (HB.out.cell (blt_ hx110_13)).trans hx110_13
           have HR110_2 := Aside0.mk hi110_2
           have HC110_2 := Aside0.mk hl110_2
           clear hi110_2 hl110_2
           replace p110 := eq_true p110
           replace q110 := eq_true q110
           go_wp2_with (first | ((with_reducible refine gate_dst (N := 6) rfl ?_); refine box_event ?hg (N := 6) ?hd (cs := #[.int .i64 0, .string (⟨#[]⟩ : ByteArray), .slice none 0 0, .string (⟨#[]⟩ : ByteArray), .bool false, .string (⟨#[]⟩ : ByteArray), .bool false, .string (⟨#[]⟩ : ByteArray), .int .i64 0, .bool false, .string (⟨#[]⟩ : ByteArray), .bool false, .string (⟨#[]⟩ : ByteArray), .int .i64 0]) (t := 47) ?hr ?_; (case hd => rfl); (case hg => rfl); (case hr => first | (go_simp; done) | (go_simp; rfl)); intro gb111 hg w21 hbox hb; have n0_ := Aside0.mk (Kd.R_below (by (with_reducible repeat (first | apply Kd.R_alloc | apply Kd.R_drewN | apply Kd.R_drew)); exact HO_4.out) hb); have n1_ := Aside0.mk (blk_below (g := gb101) (o := .cells #[.string a0_0, .slice A0_1 l0_1.length c0_1, .slice (some ad110) l0_2.length c0_2] 27 (0, 0)) (by (with_reducible repeat (first | refine blk_drewN ?_ _ | refine blk_drew ?_ | refine blk_alloc ?_ _)); exact BK101.out) hb); have n2_ := Aside0.mk (below_step (by repeat (first | (with_reducible first | exact HB.out | apply below_alloc | apply pw_below_drewN | apply below_drew1 | refine below_set ?_ GE101.out) | exact HB.out)) hb); have n3_ := Aside0.mk (hbox); have n4_ := Aside0.mk ((by rw [hg]; exact (below_size (by repeat (first | (with_reducible first | exact HB.out | apply below_alloc | apply pw_below_drewN | apply below_drew1 | refine below_set ?_ GE101.out) | exact HB.out))) : w.heap.size ≤ gb111)); have n5_ := Aside0.mk ((by rw [hg]; exact (below_size (by repeat (first | (with_reducible first | exact HB.out | apply below_alloc | apply pw_below_drewN | apply below_drew1 | refine below_set ?_ GE101.out) | exact HB.out))) : w.heap.size ≤ gb111)); have n6_ := Aside0.mk ((by rw [hg]; exact Nat.ne_of_lt (blk_lt (g := gb101) (o := .cells #[.string a0_0, .slice A0_1 l0_1.length c0_1, .slice (some ad110) l0_2.length c0_2] 27 (0, 0)) (by (with_reducible repeat (first | refine blk_drewN ?_ _ | refine blk_drew ?_ | refine blk_alloc ?_ _)); exact BK101.out)) : gb101 ≠ gb111)); have n7_ := Aside0.mk ((by rw [hg]; exact Nat.ne_of_gt (blk_lt (g := gb101) (o := .cells #[.string a0_0, .slice A0_1 l0_1.length c0_1, .slice (some ad110) l0_2.length c0_2] 27 (0, 0)) (by (with_reducible repeat (first | refine blk_drewN ?_ _ | refine blk_drew ?_ | refine blk_alloc ?_ _)); exact BK101.out)) : gb111 ≠ gb101)); clear HO_4; clear BK101; clear HB; have HO_4 := n0_; have BK101 := n1_; have HB := n2_; have BK111 := n3_; have GW111 := n4_; have GE111 := n5_; have NB101_111 := n6_; have NB111_101 := n7_; clear n0_ n1_ n2_ n3_ n4_ n5_ n6_ n7_; clear hb hbox hg; have hnb22 := NB111_101.out; have hnc22 := NB101_111.out; have hcz23_0 : w21.cell? ⟨gb111, 0, none⟩ = some (.int .i64 0) := (blk_cell BK111.out 0).trans rfl; have hcz23_1 : w21.cell? ⟨gb111, 1, none⟩ = some (.string (⟨#[]⟩ : ByteArray)) := (blk_cell BK111.out 1).trans rfl; have hcz23_2 : w21.cell? ⟨gb111, 2, none⟩ = some (.slice none 0 0) := (blk_cell BK111.out 2).trans rfl; have hcz23_3 : w21.cell? ⟨gb111, 3, none⟩ = some (.string (⟨#[]⟩ : ByteArray)) := (blk_cell BK111.out 3).trans rfl; have hcz23_4 : w21.cell? ⟨gb111, 4, none⟩ = some (.bool false) := (blk_cell BK111.out 4).trans rfl; have hcz23_5 : w21.cell? ⟨gb111, 5, none⟩ = some (.string (⟨#[]⟩ : ByteArray)) := (blk_cell BK111.out 5).trans rfl; have hcz23_6 : w21.cell? ⟨gb111, 6, none⟩ = some (.bool false) := (blk_cell BK111.out 6).trans rfl; have hcz23_7 : w21.cell? ⟨gb111, 7, none⟩ = some (.string (⟨#[]⟩ : ByteArray)) := (blk_cell BK111.out 7).trans rfl; have hcz23_8 : w21.cell? ⟨gb111, 8, none⟩ = some (.int .i64 0) := (blk_cell BK111.out 8).trans rfl; have hcz23_9 : w21.cell? ⟨gb111, 9, none⟩ = some (.bool false) := (blk_cell BK111.out 9).trans rfl; have hcz23_10 : w21.cell? ⟨gb111, 10, none⟩ = some (.string (⟨#[]⟩ : ByteArray)) := (blk_cell BK111.out 10).trans rfl; have hcz23_11 : w21.cell? ⟨gb111, 11, none⟩ = some (.bool false) := (blk_cell BK111.out 11).trans rfl; have hcz23_12 : w21.cell? ⟨gb111, 12, none⟩ = some (.string (⟨#[]⟩ : ByteArray)) := (blk_cell BK111.out 12).trans rfl; have hcz23_13 : w21.cell? ⟨gb111, 13, none⟩ = some (.int .i64 0) := (blk_cell BK111.out 13).trans rfl; have hfz23_0 := blk_frozen BK111.out 0; have hfz23_1 := blk_frozen BK111.out 1; have hfz23_2 := blk_frozen BK111.out 2; have hfz23_3 := blk_frozen BK111.out 3; have hfz23_4 := blk_frozen BK111.out 4; have hfz23_5 := blk_frozen BK111.out 5; have hfz23_6 := blk_frozen BK111.out 6; have hfz23_7 := blk_frozen BK111.out 7; have hfz23_8 := blk_frozen BK111.out 8; have hfz23_9 := blk_frozen BK111.out 9; have hfz23_10 := blk_frozen BK111.out 10; have hfz23_11 := blk_frozen BK111.out 11; have hfz23_12 := blk_frozen BK111.out 12; have hfz23_13 := blk_frozen BK111.out 13) | ((with_reducible refine gate_builtin (b := .append) (xs := #[.tmp 37, .tmp 40]) rfl ?_); at_builtin; refine Kd.R_append_rows k45 (w0 := w) w.heap.size rfl (.tmp 37) (.tmp 40) 22 45 (.agg #[(.bool false), (.string ⟨#[]⟩), (.bool false), (.string ⟨#[]⟩), (.int .i64 0)]) 56 rfl Try.underlying22 info45 rfl (by decide) (by omega) u4 x4_1 ((rd_T47 l0_2 x5_1).atom.args) _ _ _ (fun _ => True) (fun _ => False) rfl rfl ?aO ?aR (fun _ _ h => h) (fun _ h => h.elim) ?aF ?aB ?aS ?aL ?_; (case aR => exact Kd.C_below HR110_2.out (by repeat (first | (with_reducible first | exact HB.out | apply below_alloc | apply pw_below_drewN | apply below_drew1 | refine below_set ?_ GE101.out | refine below_set ?_ GE111.out) | exact HB.out))); (case aB => exact (by repeat (first | (with_reducible first | exact HB.out | apply below_alloc | apply pw_below_drewN | apply below_drew1 | refine below_set ?_ GE101.out | refine below_set ?_ GE111.out) | exact HB.out))); (case aF => exact (fun _ _ => trivial)); (case aO => exact (by (with_reducible repeat (first | apply Kd.R_alloc | apply Kd.R_drewN | apply Kd.R_drew)); exact Kd.R_mono (Kd.R_far (p := ⟨gb111, 13, none⟩) (Kd.R_far (p := ⟨gb111, 12, none⟩) (Kd.R_far (p := ⟨gb111, 11, none⟩) (Kd.R_far (p := ⟨gb111, 10, none⟩) (Kd.R_far (p := ⟨gb111, 9, none⟩) (Kd.R_far (p := ⟨gb111, 8, none⟩) (Kd.R_far (p := ⟨gb111, 7, none⟩) (Kd.R_far (p := ⟨gb111, 6, none⟩) (Kd.R_far (p := ⟨gb111, 5, none⟩) (Kd.R_far (p := ⟨gb111, 4, none⟩) (Kd.R_far (p := ⟨gb111, 3, none⟩) (Kd.R_far (p := ⟨gb111, 2, none⟩) (Kd.R_far (p := ⟨gb111, 1, none⟩) (Kd.R_far (p := ⟨gb111, 0, none⟩) (Kd.R_types HO_4.out BK111.out (by decide)) (fun _ hk => hk.2) _) (fun _ hk => hk.2) _) (fun _ hk => hk.2) _) (fun _ hk => hk.2) _) (fun _ hk => hk.2) _) (fun _ hk => hk.2) _) (fun _ hk => hk.2) _) (fun _ hk => hk.2) _) (fun _ hk => hk.2) _) (fun _ hk => hk.2) _) (fun _ hk => hk.2) _) (fun _ hk => hk.2) _) (fun _ hk => hk.2) _) (fun _ hk => hk.2) _) (fun _ hk => trivial))); (case aS => exact (below_size (by repeat (first | (with_reducible first | exact HB.out | apply below_alloc | apply pw_below_drewN | apply below_drew1 | refine below_set ?_ GE101.out | refine below_set ?_ GE111.out) | exact HB.out)))); (case aL => have := LMc17.out; omega); intro v113 w24 ho hb hg hat; rw [← Ny112.out] at ho; have n0_ := Aside0.mk (blk_grown (g := gb101) (o := .cells #[.string a0_0, .slice A0_1 l0_1.length c0_1, .slice (some ad110) l0_2.length c0_2] 27 (0, 0)) (by repeat (first | (with_reducible first | exact BK101.out | refine blk_drewN ?_ _ | refine blk_drew ?_ | refine blk_alloc ?_ _) | refine blk_far ?_ NB101_111.out _ | exact BK101.out)) hg (Kd.R_ne HO_4.out BK101.out (by decide))); have n1_ := Aside0.mk (blk_grown (g := gb111) (o := .cells #[.int .i64 ((rd_T47 l0_2 x5_1).kind), .string ((rd_T47 l0_2 x5_1).atom.pred), .slice A110_2 ((rd_T47 l0_2 x5_1).atom.args).length c110_2, .string ((rd_T47 l0_2 x5_1).op), .bool ((rd_T47 l0_2 x5_1).l.isVar), .string ((rd_T47 l0_2 x5_1).l.name), .bool ((rd_T47 l0_2 x5_1).l.val.isSym), .string ((rd_T47 l0_2 x5_1).l.val.sym), .int .i64 ((rd_T47 l0_2 x5_1).l.val.n), .bool ((rd_T47 l0_2 x5_1).r.isVar), .string ((rd_T47 l0_2 x5_1).r.name), .bool ((rd_T47 l0_2 x5_1).r.val.isSym), .string ((rd_T47 l0_2 x5_1).r.val.sym), .int .i64 ((rd_T47 l0_2 x5_1).r.val.n)] 47 (0, 0)) (by (with_reducible repeat (first | refine blk_drewN ?_ _ | refine blk_drew ?_ | refine blk_alloc ?_ _)); refine blk_put (cs := #[.int .i64 ((rd_T47 l0_2 x5_1).kind), .string ((rd_T47 l0_2 x5_1).atom.pred), .slice A110_2 ((rd_T47 l0_2 x5_1).atom.args).length c110_2, .string ((rd_T47 l0_2 x5_1).op), .bool ((rd_T47 l0_2 x5_1).l.isVar), .string ((rd_T47 l0_2 x5_1).l.name), .bool ((rd_T47 l0_2 x5_1).l.val.isSym), .string ((rd_T47 l0_2 x5_1).l.val.sym), .int .i64 ((rd_T47 l0_2 x5_1).l.val.n), .bool ((rd_T47 l0_2 x5_1).r.isVar), .string ((rd_T47 l0_2 x5_1).r.name), .bool ((rd_T47 l0_2 x5_1).r.val.isSym), .string ((rd_T47 l0_2 x5_1).r.val.sym), .int .i64 0]) ?_ 13 _ rfl; (with_reducible repeat (first | refine blk_drewN ?_ _ | refine blk_drew ?_ | refine blk_alloc ?_ _)); refine blk_put (cs := #[.int .i64 ((rd_T47 l0_2 x5_1).kind), .string ((rd_T47 l0_2 x5_1).atom.pred), .slice A110_2 ((rd_T47 l0_2 x5_1).atom.args).length c110_2, .string ((rd_T47 l0_2 x5_1).op), .bool ((rd_T47 l0_2 x5_1).l.isVar), .string ((rd_T47 l0_2 x5_1).l.name), .bool ((rd_T47 l0_2 x5_1).l.val.isSym), .string ((rd_T47 l0_2 x5_1).l.val.sym), .int .i64 ((rd_T47 l0_2 x5_1).l.val.n), .bool ((rd_T47 l0_2 x5_1).r.isVar), .string ((rd_T47 l0_2 x5_1).r.name), .bool ((rd_T47 l0_2 x5_1).r.val.isSym), .string (⟨#[]⟩ : ByteArray), .int .i64 0]) ?_ 12 _ rfl; (with_reducible repeat (first | refine blk_drewN ?_ _ | refine blk_drew ?_ | refine blk_alloc ?_ _)); refine blk_put (cs := #[.int .i64 ((rd_T47 l0_2 x5_1).kind), .string ((rd_T47 l0_2 x5_1).atom.pred), .slice A110_2 ((rd_T47 l0_2 x5_1).atom.args).length c110_2, .string ((rd_T47 l0_2 x5_1).op), .bool ((rd_T47 l0_2 x5_1).l.isVar), .string ((rd_T47 l0_2 x5_1).l.name), .bool ((rd_T47 l0_2 x5_1).l.val.isSym), .string ((rd_T47 l0_2 x5_1).l.val.sym), .int .i64 ((rd_T47 l0_2 x5_1).l.val.n), .bool ((rd_T47 l0_2 x5_1).r.isVar), .string ((rd_T47 l0_2 x5_1).r.name), .bool false, .string (⟨#[]⟩ : ByteArray), .int .i64 0]) ?_ 11 _ rfl; (with_reducible repeat (first | refine blk_drewN ?_ _ | refine blk_drew ?_ | refine blk_alloc ?_ _)); refine blk_put (cs := #[.int .i64 ((rd_T47 l0_2 x5_1).kind), .string ((rd_T47 l0_2 x5_1).atom.pred), .slice A110_2 ((rd_T47 l0_2 x5_1).atom.args).length c110_2, .string ((rd_T47 l0_2 x5_1).op), .bool ((rd_T47 l0_2 x5_1).l.isVar), .string ((rd_T47 l0_2 x5_1).l.name), .bool ((rd_T47 l0_2 x5_1).l.val.isSym), .string ((rd_T47 l0_2 x5_1).l.val.sym), .int .i64 ((rd_T47 l0_2 x5_1).l.val.n), .bool ((rd_T47 l0_2 x5_1).r.isVar), .string (⟨#[]⟩ : ByteArray), .bool false, .string (⟨#[]⟩ : ByteArray), .int .i64 0]) ?_ 10 _ rfl; (with_reducible repeat (first | refine blk_drewN ?_ _ | refine blk_drew ?_ | refine blk_alloc ?_ _)); refine blk_put (cs := #[.int .i64 ((rd_T47 l0_2 x5_1).kind), .string ((rd_T47 l0_2 x5_1).atom.pred), .slice A110_2 ((rd_T47 l0_2 x5_1).atom.args).length c110_2, .string ((rd_T47 l0_2 x5_1).op), .bool ((rd_T47 l0_2 x5_1).l.isVar), .string ((rd_T47 l0_2 x5_1).l.name), .bool ((rd_T47 l0_2 x5_1).l.val.isSym), .string ((rd_T47 l0_2 x5_1).l.val.sym), .int .i64 ((rd_T47 l0_2 x5_1).l.val.n), .bool false, .string (⟨#[]⟩ : ByteArray), .bool false, .string (⟨#[]⟩ : ByteArray), .int .i64 0]) ?_ 9 _ rfl; (with_reducible repeat (first | refine blk_drewN ?_ _ | refine blk_drew ?_ | refine blk_alloc ?_ _)); refine blk_put (cs := #[.int .i64 ((rd_T47 l0_2 x5_1).kind), .string ((rd_T47 l0_2 x5_1).atom.pred), .slice A110_2 ((rd_T47 l0_2 x5_1).atom.args).length c110_2, .string ((rd_T47 l0_2 x5_1).op), .bool ((rd_T47 l0_2 x5_1).l.isVar), .string ((rd_T47 l0_2 x5_1).l.name), .bool ((rd_T47 l0_2 x5_1).l.val.isSym), .string ((rd_T47 l0_2 x5_1).l.val.sym), .int .i64 0, .bool false, .string (⟨#[]⟩ : ByteArray), .bool false, .string (⟨#[]⟩ : ByteArray), .int .i64 0]) ?_ 8 _ rfl; (with_reducible repeat (first | refine blk_drewN ?_ _ | refine blk_drew ?_ | refine blk_alloc ?_ _)); refine blk_put (cs := #[.int .i64 ((rd_T47 l0_2 x5_1).kind), .string ((rd_T47 l0_2 x5_1).atom.pred), .slice A110_2 ((rd_T47 l0_2 x5_1).atom.args).length c110_2, .string ((rd_T47 l0_2 x5_1).op), .bool ((rd_T47 l0_2 x5_1).l.isVar), .string ((rd_T47 l0_2 x5_1).l.name), .bool ((rd_T47 l0_2 x5_1).l.val.isSym), .string (⟨#[]⟩ : ByteArray), .int .i64 0, .bool false, .string (⟨#[]⟩ : ByteArray), .bool false, .string (⟨#[]⟩ : ByteArray), .int .i64 0]) ?_ 7 _ rfl; (with_reducible repeat (first | refine blk_drewN ?_ _ | refine blk_drew ?_ | refine blk_alloc ?_ _)); refine blk_put (cs := #[.int .i64 ((rd_T47 l0_2 x5_1).kind), .string ((rd_T47 l0_2 x5_1).atom.pred), .slice A110_2 ((rd_T47 l0_2 x5_1).atom.args).length c110_2, .string ((rd_T47 l0_2 x5_1).op), .bool ((rd_T47 l0_2 x5_1).l.isVar), .string ((rd_T47 l0_2 x5_1).l.name), .bool false, .string (⟨#[]⟩ : ByteArray), .int .i64 0, .bool false, .string (⟨#[]⟩ : ByteArray), .bool false, .string (⟨#[]⟩ : ByteArray), .int .i64 0]) ?_ 6 _ rfl; (with_reducible repeat (first | refine blk_drewN ?_ _ | refine blk_drew ?_ | refine blk_alloc ?_ _)); refine blk_put (cs := #[.int .i64 ((rd_T47 l0_2 x5_1).kind), .string ((rd_T47 l0_2 x5_1).atom.pred), .slice A110_2 ((rd_T47 l0_2 x5_1).atom.args).length c110_2, .string ((rd_T47 l0_2 x5_1).op), .bool ((rd_T47 l0_2 x5_1).l.isVar), .string (⟨#[]⟩ : ByteArray), .bool false, .string (⟨#[]⟩ : ByteArray), .int .i64 0, .bool false, .string (⟨#[]⟩ : ByteArray), .bool false, .string (⟨#[]⟩ : ByteArray), .int .i64 0]) ?_ 5 _ rfl; (with_reducible repeat (first | refine blk_drewN ?_ _ | refine blk_drew ?_ | refine blk_alloc ?_ _)); refine blk_put (cs := #[.int .i64 ((rd_T47 l0_2 x5_1).kind), .string ((rd_T47 l0_2 x5_1).atom.pred), .slice A110_2 ((rd_T47 l0_2 x5_1).atom.args).length c110_2, .string ((rd_T47 l0_2 x5_1).op), .bool false, .string (⟨#[]⟩ : ByteArray), .bool false, .string (⟨#[]⟩ : ByteArray), .int .i64 0, .bool false, .string (⟨#[]⟩ : ByteArray), .bool false, .string (⟨#[]⟩ : ByteArray), .int .i64 0]) ?_ 4 _ rfl; (with_reducible repeat (first | refine blk_drewN ?_ _ | refine blk_drew ?_ | refine blk_alloc ?_ _)); refine blk_put (cs := #[.int .i64 ((rd_T47 l0_2 x5_1).kind), .string ((rd_T47 l0_2 x5_1).atom.pred), .slice A110_2 ((rd_T47 l0_2 x5_1).atom.args).length c110_2, .string (⟨#[]⟩ : ByteArray), .bool false, .string (⟨#[]⟩ : ByteArray), .bool false, .string (⟨#[]⟩ : ByteArray), .int .i64 0, .bool false, .string (⟨#[]⟩ : ByteArray), .bool false, .string (⟨#[]⟩ : ByteArray), .int .i64 0]) ?_ 3 _ rfl; (with_reducible repeat (first | refine blk_drewN ?_ _ | refine blk_drew ?_ | refine blk_alloc ?_ _)); refine blk_put (cs := #[.int .i64 ((rd_T47 l0_2 x5_1).kind), .string ((rd_T47 l0_2 x5_1).atom.pred), .slice none 0 0, .string (⟨#[]⟩ : ByteArray), .bool false, .string (⟨#[]⟩ : ByteArray), .bool false, .string (⟨#[]⟩ : ByteArray), .int .i64 0, .bool false, .string (⟨#[]⟩ : ByteArray), .bool false, .string (⟨#[]⟩ : ByteArray), .int .i64 0]) ?_ 2 _ rfl; (with_reducible repeat (first | refine blk_drewN ?_ _ | refine blk_drew ?_ | refine blk_alloc ?_ _)); refine blk_put (cs := #[.int .i64 ((rd_T47 l0_2 x5_1).kind), .string (⟨#[]⟩ : ByteArray), .slice none 0 0, .string (⟨#[]⟩ : ByteArray), .bool false, .string (⟨#[]⟩ : ByteArray), .bool false, .string (⟨#[]⟩ : ByteArray), .int .i64 0, .bool false, .string (⟨#[]⟩ : ByteArray), .bool false, .string (⟨#[]⟩ : ByteArray), .int .i64 0]) ?_ 1 _ rfl; (with_reducible repeat (first | refine blk_drewN ?_ _ | refine blk_drew ?_ | refine blk_alloc ?_ _)); refine blk_put (cs := #[.int .i64 0, .string (⟨#[]⟩ : ByteArray), .slice none 0 0, .string (⟨#[]⟩ : ByteArray), .bool false, .string (⟨#[]⟩ : ByteArray), .bool false, .string (⟨#[]⟩ : ByteArray), .int .i64 0, .bool false, .string (⟨#[]⟩ : ByteArray), .bool false, .string (⟨#[]⟩ : ByteArray), .int .i64 0]) ?_ 0 _ rfl; (with_reducible repeat (first | refine blk_drewN ?_ _ | refine blk_drew ?_ | refine blk_alloc ?_ _)); exact BK111.out) hg (Kd.R_ne HO_4.out BK111.out (by decide))); have n2_ := Aside0.mk (hb); have n3_ := Aside0.mk (ho); clear BK101; clear BK111; clear HB; clear HO_4; have BK101 := n0_; have BK111 := n1_; have HB := n2_; have HO114 := n3_; clear n0_ n1_ n2_ n3_; clear ho hb hg hat; have hcz25_0 : w24.cell? ⟨gb111, 0, none⟩ = some (.int .i64 ((rd_T47 l0_2 x5_1).kind)) := (blk_cell BK111.out 0).trans rfl; have hcz25_1 : w24.cell? ⟨gb111, 1, none⟩ = some (.string ((rd_T47 l0_2 x5_1).atom.pred)) := (blk_cell BK111.out 1).trans rfl; have hcz25_2 : w24.cell? ⟨gb111, 2, none⟩ = some (.slice A110_2 ((rd_T47 l0_2 x5_1).atom.args).length c110_2) := (blk_cell BK111.out 2).trans rfl; have hcz25_3 : w24.cell? ⟨gb111, 3, none⟩ = some (.string ((rd_T47 l0_2 x5_1).op)) := (blk_cell BK111.out 3).trans rfl; have hcz25_4 : w24.cell? ⟨gb111, 4, none⟩ = some (.bool ((rd_T47 l0_2 x5_1).l.isVar)) := (blk_cell BK111.out 4).trans rfl; have hcz25_5 : w24.cell? ⟨gb111, 5, none⟩ = some (.string ((rd_T47 l0_2 x5_1).l.name)) := (blk_cell BK111.out 5).trans rfl; have hcz25_6 : w24.cell? ⟨gb111, 6, none⟩ = some (.bool ((rd_T47 l0_2 x5_1).l.val.isSym)) := (blk_cell BK111.out 6).trans rfl; have hcz25_7 : w24.cell? ⟨gb111, 7, none⟩ = some (.string ((rd_T47 l0_2 x5_1).l.val.sym)) := (blk_cell BK111.out 7).trans rfl; have hcz25_8 : w24.cell? ⟨gb111, 8, none⟩ = some (.int .i64 ((rd_T47 l0_2 x5_1).l.val.n)) := (blk_cell BK111.out 8).trans rfl; have hcz25_9 : w24.cell? ⟨gb111, 9, none⟩ = some (.bool ((rd_T47 l0_2 x5_1).r.isVar)) := (blk_cell BK111.out 9).trans rfl; have hcz25_10 : w24.cell? ⟨gb111, 10, none⟩ = some (.string ((rd_T47 l0_2 x5_1).r.name)) := (blk_cell BK111.out 10).trans rfl; have hcz25_11 : w24.cell? ⟨gb111, 11, none⟩ = some (.bool ((rd_T47 l0_2 x5_1).r.val.isSym)) := (blk_cell BK111.out 11).trans rfl; have hcz25_12 : w24.cell? ⟨gb111, 12, none⟩ = some (.string ((rd_T47 l0_2 x5_1).r.val.sym)) := (blk_cell BK111.out 12).trans rfl; have hcz25_13 : w24.cell? ⟨gb111, 13, none⟩ = some (.int .i64 ((rd_T47 l0_2 x5_1).r.val.n)) := (blk_cell BK111.out 13).trans rfl; have hfz25_0 := blk_frozen BK111.out 0; have hfz25_1 := blk_frozen BK111.out 1; have hfz25_2 := blk_frozen BK111.out 2; have hfz25_3 := blk_frozen BK111.out 3; have hfz25_4 := blk_frozen BK111.out 4; have hfz25_5 := blk_frozen BK111.out 5; have hfz25_6 := blk_frozen BK111.out 6; have hfz25_7 := blk_frozen BK111.out 7; have hfz25_8 := blk_frozen BK111.out 8; have hfz25_9 := blk_frozen BK111.out 9; have hfz25_10 := blk_frozen BK111.out 10; have hfz25_11 := blk_frozen BK111.out 11; have hfz25_12 := blk_frozen BK111.out 12; have hfz25_13 := blk_frozen BK111.out 13) | ((with_reducible refine gate_dst (N := 50) rfl ?_); refine Kd.R_lit k45 _ 45 ?hg (N := 50) ?hd (xs := ([(⟨(rd_T47 l0_2 x5_1).l.isVar, (rd_T47 l0_2 x5_1).l.name, (⟨(rd_T47 l0_2 x5_1).l.val.isSym, (rd_T47 l0_2 x5_1).l.val.sym, (rd_T47 l0_2 x5_1).l.val.n⟩ : Val)⟩ : Term), (⟨(rd_T47 l0_2 x5_1).r.isVar, (rd_T47 l0_2 x5_1).r.name, (⟨(rd_T47 l0_2 x5_1).r.val.isSym, (rd_T47 l0_2 x5_1).r.val.sym, (rd_T47 l0_2 x5_1).r.val.n⟩ : Val)⟩ : Term)] : List (Term))) (inner := [.bool ((rd_T47 l0_2 x5_1).l.isVar), .string ((rd_T47 l0_2 x5_1).l.name), .bool ((rd_T47 l0_2 x5_1).l.val.isSym), .string ((rd_T47 l0_2 x5_1).l.val.sym), .int .i64 ((rd_T47 l0_2 x5_1).l.val.n), .bool ((rd_T47 l0_2 x5_1).r.isVar), .string ((rd_T47 l0_2 x5_1).r.name), .bool ((rd_T47 l0_2 x5_1).r.val.isSym), .string ((rd_T47 l0_2 x5_1).r.val.sym), .int .i64 ((rd_T47 l0_2 x5_1).r.val.n)]) (ok := fun _ => True) (okp := fun _ => True) ?hr ?hp (fun _ hk => hk) trivial (Below.refl _ _) (Nat.le_refl _) (by simp) ?_; (case hd => rfl); (case hg => rfl); (case hr => first | (go_simp; done) | (go_simp; rfl)); (case hp => exact (Reps.c5 (show Kd.M k45 _ _ _ (⟨(rd_T47 l0_2 x5_1).l.isVar, (rd_T47 l0_2 x5_1).l.name, (⟨(rd_T47 l0_2 x5_1).l.val.isSym, (rd_T47 l0_2 x5_1).l.val.sym, (rd_T47 l0_2 x5_1).l.val.n⟩ : Val)⟩ : Term) [.bool ((rd_T47 l0_2 x5_1).l.isVar), .string ((rd_T47 l0_2 x5_1).l.name), .bool ((rd_T47 l0_2 x5_1).l.val.isSym), .string ((rd_T47 l0_2 x5_1).l.val.sym), .int .i64 ((rd_T47 l0_2 x5_1).l.val.n)] from (k45_mkM _ _ _ (⟨(rd_T47 l0_2 x5_1).l.isVar, (rd_T47 l0_2 x5_1).l.name, (⟨(rd_T47 l0_2 x5_1).l.val.isSym, (rd_T47 l0_2 x5_1).l.val.sym, (rd_T47 l0_2 x5_1).l.val.n⟩ : Val)⟩ : Term) )) (Reps.c5 (show Kd.M k45 _ _ _ (⟨(rd_T47 l0_2 x5_1).r.isVar, (rd_T47 l0_2 x5_1).r.name, (⟨(rd_T47 l0_2 x5_1).r.val.isSym, (rd_T47 l0_2 x5_1).r.val.sym, (rd_T47 l0_2 x5_1).r.val.n⟩ : Val)⟩ : Term) [.bool ((rd_T47 l0_2 x5_1).r.isVar), .string ((rd_T47 l0_2 x5_1).r.name), .bool ((rd_T47 l0_2 x5_1).r.val.isSym), .string ((rd_T47 l0_2 x5_1).r.val.sym), .int .i64 ((rd_T47 l0_2 x5_1).r.val.n)] from (k45_mkM _ _ _ (⟨(rd_T47 l0_2 x5_1).r.isVar, (rd_T47 l0_2 x5_1).r.name, (⟨(rd_T47 l0_2 x5_1).r.val.isSym, (rd_T47 l0_2 x5_1).r.val.sym, (rd_T47 l0_2 x5_1).r.val.n⟩ : Val)⟩ : Term) )) (Reps.none _ _)))); intro v116 w26 ho27 hb hg_ hnew_; clear hg_ hnew_; (first | rw [← Ny115.out] at ho27 | (simp only [Int.reduceToNat] at ho27; rw [← Ny115.out] at ho27)); have n0_ := Aside0.mk (Kd.R_elder' (by (with_reducible repeat (first | apply Kd.R_alloc | apply Kd.R_drewN | apply Kd.R_drew)); exact HO114.out) (Kd.R_base ho27) hb); have n1_ := Aside0.mk (Kd.R_lower (Kd.R_new' ho27 (Kd.R_lt (by (with_reducible repeat (first | apply Kd.R_alloc | apply Kd.R_drewN | apply Kd.R_drew)); exact HO114.out))) (below_size (by repeat (first | (with_reducible first | exact HB.out | apply below_alloc | apply pw_below_drewN | apply below_drew1 | refine below_set ?_ GE101.out | refine below_set ?_ GE111.out) | exact HB.out)))); have n2_ := Aside0.mk (blk_below (g := gb101) (o := .cells #[.string a0_0, .slice A0_1 l0_1.length c0_1, .slice (some ad110) l0_2.length c0_2] 27 (0, 0)) (by (with_reducible repeat (first | refine blk_drewN ?_ _ | refine blk_drew ?_ | refine blk_alloc ?_ _)); exact BK101.out) hb); have n3_ := Aside0.mk (blk_below (g := gb111) (o := .cells #[.int .i64 ((rd_T47 l0_2 x5_1).kind), .string ((rd_T47 l0_2 x5_1).atom.pred), .slice A110_2 ((rd_T47 l0_2 x5_1).atom.args).length c110_2, .string ((rd_T47 l0_2 x5_1).op), .bool ((rd_T47 l0_2 x5_1).l.isVar), .string ((rd_T47 l0_2 x5_1).l.name), .bool ((rd_T47 l0_2 x5_1).l.val.isSym), .string ((rd_T47 l0_2 x5_1).l.val.sym), .int .i64 ((rd_T47 l0_2 x5_1).l.val.n), .bool ((rd_T47 l0_2 x5_1).r.isVar), .string ((rd_T47 l0_2 x5_1).r.name), .bool ((rd_T47 l0_2 x5_1).r.val.isSym), .string ((rd_T47 l0_2 x5_1).r.val.sym), .int .i64 ((rd_T47 l0_2 x5_1).r.val.n)] 47 (0, 0)) (by (with_reducible repeat (first | refine blk_drewN ?_ _ | refine blk_drew ?_ | refine blk_alloc ?_ _)); exact BK111.out) hb); have n4_ := Aside0.mk (below_step (by repeat (first | (with_reducible first | exact HB.out | apply below_alloc | apply pw_below_drewN | apply below_drew1 | refine below_set ?_ GE101.out | refine below_set ?_ GE111.out) | exact HB.out)) hb); clear HO114; clear BK101; clear BK111; clear HB; have HO114 := n0_; have HO117 := n1_; have BK101 := n2_; have BK111 := n3_; have HB := n4_; clear n0_ n1_ n2_ n3_ n4_; clear hb ho27; obtain ⟨Ao29, co29, eo29⟩ := Kd.R_slice HO117.out; subst eo29) | ((with_reducible refine gate_builtin (b := .append) (xs := #[.tmp 45, .tmp 50]) rfl ?_); at_builtin; refine Kd.R_append_rows k45 (w0 := w) w.heap.size rfl (.tmp 45) (.tmp 50) 22 45 (.agg #[(.bool false), (.string ⟨#[]⟩), (.bool false), (.string ⟨#[]⟩), (.int .i64 0)]) 56 rfl Try.underlying22 info45 rfl (by decide) (by omega) v113 y112 y115 _ _ _ (fun k_ => some k_ ≠ (.slice Ao29 y115.length co29 : Value).ownBlock) (fun _ => False) rfl rfl ?aO ?aR (fun _ _ h => h) (fun _ h => h.elim) ?aF ?aB ?aS ?aL ?_; (case aR => repeat (first | exact (Kd.R_reads' HO117.out).2.2 | (with_reducible refine Kd.C_alloc ?_ _) | (with_reducible refine Kd.C_drewN ?_ _) | (with_reducible refine Kd.C_drew ?_))); (case aB => exact (by repeat (first | (with_reducible first | exact HB.out | apply below_alloc | apply pw_below_drewN | apply below_drew1 | refine below_set ?_ GE101.out | refine below_set ?_ GE111.out) | exact HB.out))); (case aF => exact (fun k_ hk => Kd.fresh' (Kd.R_lt (by (with_reducible repeat (first | apply Kd.R_alloc | apply Kd.R_drewN | apply Kd.R_drew)); exact HO117.out)) k_ hk)); (case aO => exact (by (with_reducible repeat (first | apply Kd.R_alloc | apply Kd.R_drewN | apply Kd.R_drew)); exact Kd.R_mono HO114.out (fun _ hk => hk.2))); (case aS => exact (below_size (by repeat (first | (with_reducible first | exact HB.out | apply below_alloc | apply pw_below_drewN | apply below_drew1 | refine below_set ?_ GE101.out | refine below_set ?_ GE111.out) | exact HB.out)))); (case aL => have := LMc19.out; omega); intro v119 w28 ho hb hg hat; rw [← Ny118.out] at ho; have n0_ := Aside0.mk (blk_grown (g := gb101) (o := .cells #[.string a0_0, .slice A0_1 l0_1.length c0_1, .slice (some ad110) l0_2.length c0_2] 27 (0, 0)) (by (with_reducible repeat (first | refine blk_drewN ?_ _ | refine blk_drew ?_ | refine blk_alloc ?_ _)); exact BK101.out) hg (Kd.R_ne HO114.out BK101.out (by decide))); have n1_ := Aside0.mk (blk_grown (g := gb111) (o := .cells #[.int .i64 ((rd_T47 l0_2 x5_1).kind), .string ((rd_T47 l0_2 x5_1).atom.pred), .slice A110_2 ((rd_T47 l0_2 x5_1).atom.args).length c110_2, .string ((rd_T47 l0_2 x5_1).op), .bool ((rd_T47 l0_2 x5_1).l.isVar), .string ((rd_T47 l0_2 x5_1).l.name), .bool ((rd_T47 l0_2 x5_1).l.val.isSym), .string ((rd_T47 l0_2 x5_1).l.val.sym), .int .i64 ((rd_T47 l0_2 x5_1).l.val.n), .bool ((rd_T47 l0_2 x5_1).r.isVar), .string ((rd_T47 l0_2 x5_1).r.name), .bool ((rd_T47 l0_2 x5_1).r.val.isSym), .string ((rd_T47 l0_2 x5_1).r.val.sym), .int .i64 ((rd_T47 l0_2 x5_1).r.val.n)] 47 (0, 0)) (by (with_reducible repeat (first | refine blk_drewN ?_ _ | refine blk_drew ?_ | refine blk_alloc ?_ _)); exact BK111.out) hg (Kd.R_ne HO114.out BK111.out (by decide))); have n2_ := Aside0.mk (Kd.R_after (ok := (fun _ => True)) (by (with_reducible repeat (first | apply Kd.R_alloc | apply Kd.R_drewN | apply Kd.R_drew)); exact HO117.out) hg hat); have n3_ := Aside0.mk (hb); have n4_ := Aside0.mk (ho); clear BK101; clear BK111; clear HO117; clear HB; clear HO114; have BK101 := n0_; have BK111 := n1_; have HO117 := n2_; have HB := n3_; have HO120 := n4_; clear n0_ n1_ n2_ n3_ n4_; clear ho hb hg hat))
           go_roundg k1
           case measure => have := HK1.out; omega
           case rel => exact ⟨(y118), (wrap64 (x5_1 + 1)), (by first | rfl | (simp; done) | (simp [*]; done)), H', ⟨by have := HK1.out; omega⟩, ⟨by (with_reducible repeat (first | apply Kd.R_alloc | apply Kd.R_drewN | apply Kd.R_drew)); exact Kd.R_mono HO120.out (fun _ hk => trivial)⟩, ⟨by (with_reducible repeat (first | refine blk_drewN ?_ _ | refine blk_drew ?_ | refine blk_alloc ?_ _)); exact BK101.out⟩, ⟨by repeat (first | (with_reducible first | exact HB.out | apply below_alloc | apply pw_below_drewN | apply below_drew1 | refine below_set ?_ GE101.out | refine below_set ?_ GE111.out) | exact HB.out)⟩⟩
          ·rw [if_neg c19] at H
           exact absurd H (by simp)
         ·rw [if_neg c18] at H
          have c18b0 : (((rd_T47 l0_2 x5_1).kind) == 3) = false := beq_eq_false_iff_ne.mpr c18
          have c18b1 : (((rd_T47 l0_2 x5_1).kind) != 3) = true := bne_iff_ne.mpr c18
          have H' := Aside0.mk H
          clear H
          have hcz30_0 : wr.cell? ⟨gb101, 0, none⟩ = some (.string a0_0) := (blk_cell BK101.out 0).trans rfl
          have hcz30_1 : wr.cell? ⟨gb101, 1, none⟩ = some (.slice A0_1 l0_1.length c0_1) := (blk_cell BK101.out 1).trans rfl
          have hcz30_2 : wr.cell? ⟨gb101, 2, none⟩ = some (.slice A0_2 l0_2.length c0_2) := (blk_cell BK101.out 2).trans rfl
          have hfz30_0 := blk_frozen BK101.out 0
          have hfz30_1 := blk_frozen BK101.out 1
          have hfz30_2 := blk_frozen BK101.out 2
          have p110 : 0 ≤ (x5_1 : Int) := of_decide_eq_true (by first | (with_reducible assumption) | assumption)
          have q110 : x5_1 < (l0_2.length : Int) := of_decide_eq_true (by first | (with_reducible assumption) | assumption)
          obtain ⟨ad110, A110_2, c110_2, e110, hx110_0, hx110_1, hx110_2, hx110_3, hx110_4, hx110_5, hx110_6, hx110_7, hx110_8, hx110_9, hx110_10, hx110_11, hx110_12, hx110_13, hl110_2, hi110_2⟩ := at_T47 HR0_2.out x5_1 p110 q110
          cases e110
          replace hx110_0 := (HB.out.cell (blt_ hx110_0)).trans hx110_0
          replace hx110_1 := (HB.out.cell (blt_ hx110_1)).trans hx110_1
          replace hx110_2 := (HB.out.cell (blt_ hx110_2)).trans hx110_2
          replace hx110_3 := (HB.out.cell (blt_ hx110_3)).trans hx110_3
          replace hx110_4 := (HB.out.cell (blt_ hx110_4)).trans hx110_4
          replace hx110_5 := (HB.out.cell (blt_ hx110_5)).trans hx110_5
          replace hx110_6 := (HB.out.cell (blt_ hx110_6)).trans hx110_6
          replace hx110_7 := (HB.out.cell (blt_ hx110_7)).trans hx110_7
          replace hx110_8 := (HB.out.cell (blt_ hx110_8)).trans hx110_8
          replace hx110_9 := (HB.out.cell (blt_ hx110_9)).trans hx110_9
          replace hx110_10 := (HB.out.cell (blt_ hx110_10)).trans hx110_10
          replace hx110_11 := (HB.out.cell (blt_ hx110_11)).trans hx110_11
          replace hx110_12 := (HB.out.cell (blt_ hx110_12)).trans hx110_12
          replace hx110_13 := (HB.out.cell (blt_ hx110_13)).trans hx110_13
          have HR110_2 := Aside0.mk hi110_2
          have HC110_2 := Aside0.mk hl110_2
          clear hi110_2 hl110_2
          replace p110 := eq_true p110
          replace q110 := eq_true q110
          go_wp2_with (first | ((with_reducible refine gate_dst (N := 6) rfl ?_); refine box_event ?hg (N := 6) ?hd (cs := #[.int .i64 0, .string (⟨#[]⟩ : ByteArray), .slice none 0 0, .string (⟨#[]⟩ : ByteArray), .bool false, .string (⟨#[]⟩ : ByteArray), .bool false, .string (⟨#[]⟩ : ByteArray), .int .i64 0, .bool false, .string (⟨#[]⟩ : ByteArray), .bool false, .string (⟨#[]⟩ : ByteArray), .int .i64 0]) (t := 47) ?hr ?_; (case hd => rfl); (case hg => rfl); (case hr => first | (go_simp; done) | (go_simp; rfl)); intro gb111 hg w31 hbox hb; have n0_ := Aside0.mk (Kd.R_below (by (with_reducible repeat (first | apply Kd.R_alloc | apply Kd.R_drewN | apply Kd.R_drew)); exact HO_4.out) hb); have n1_ := Aside0.mk (blk_below (g := gb101) (o := .cells #[.string a0_0, .slice A0_1 l0_1.length c0_1, .slice (some ad110) l0_2.length c0_2] 27 (0, 0)) (by (with_reducible repeat (first | refine blk_drewN ?_ _ | refine blk_drew ?_ | refine blk_alloc ?_ _)); exact BK101.out) hb); have n2_ := Aside0.mk (below_step (by repeat (first | (with_reducible first | exact HB.out | apply below_alloc | apply pw_below_drewN | apply below_drew1 | refine below_set ?_ GE101.out) | exact HB.out)) hb); have n3_ := Aside0.mk (hbox); have n4_ := Aside0.mk ((by rw [hg]; exact (below_size (by repeat (first | (with_reducible first | exact HB.out | apply below_alloc | apply pw_below_drewN | apply below_drew1 | refine below_set ?_ GE101.out) | exact HB.out))) : w.heap.size ≤ gb111)); have n5_ := Aside0.mk ((by rw [hg]; exact (below_size (by repeat (first | (with_reducible first | exact HB.out | apply below_alloc | apply pw_below_drewN | apply below_drew1 | refine below_set ?_ GE101.out) | exact HB.out))) : w.heap.size ≤ gb111)); have n6_ := Aside0.mk ((by rw [hg]; exact Nat.ne_of_lt (blk_lt (g := gb101) (o := .cells #[.string a0_0, .slice A0_1 l0_1.length c0_1, .slice (some ad110) l0_2.length c0_2] 27 (0, 0)) (by (with_reducible repeat (first | refine blk_drewN ?_ _ | refine blk_drew ?_ | refine blk_alloc ?_ _)); exact BK101.out)) : gb101 ≠ gb111)); have n7_ := Aside0.mk ((by rw [hg]; exact Nat.ne_of_gt (blk_lt (g := gb101) (o := .cells #[.string a0_0, .slice A0_1 l0_1.length c0_1, .slice (some ad110) l0_2.length c0_2] 27 (0, 0)) (by (with_reducible repeat (first | refine blk_drewN ?_ _ | refine blk_drew ?_ | refine blk_alloc ?_ _)); exact BK101.out)) : gb111 ≠ gb101)); clear HO_4; clear BK101; clear HB; have HO_4 := n0_; have BK101 := n1_; have HB := n2_; have BK111 := n3_; have GW111 := n4_; have GE111 := n5_; have NB101_111 := n6_; have NB111_101 := n7_; clear n0_ n1_ n2_ n3_ n4_ n5_ n6_ n7_; clear hb hbox hg; have hnb32 := NB111_101.out; have hnc32 := NB101_111.out; have hcz33_0 : w31.cell? ⟨gb111, 0, none⟩ = some (.int .i64 0) := (blk_cell BK111.out 0).trans rfl; have hcz33_1 : w31.cell? ⟨gb111, 1, none⟩ = some (.string (⟨#[]⟩ : ByteArray)) := (blk_cell BK111.out 1).trans rfl; have hcz33_2 : w31.cell? ⟨gb111, 2, none⟩ = some (.slice none 0 0) := (blk_cell BK111.out 2).trans rfl; have hcz33_3 : w31.cell? ⟨gb111, 3, none⟩ = some (.string (⟨#[]⟩ : ByteArray)) := (blk_cell BK111.out 3).trans rfl; have hcz33_4 : w31.cell? ⟨gb111, 4, none⟩ = some (.bool false) := (blk_cell BK111.out 4).trans rfl; have hcz33_5 : w31.cell? ⟨gb111, 5, none⟩ = some (.string (⟨#[]⟩ : ByteArray)) := (blk_cell BK111.out 5).trans rfl; have hcz33_6 : w31.cell? ⟨gb111, 6, none⟩ = some (.bool false) := (blk_cell BK111.out 6).trans rfl; have hcz33_7 : w31.cell? ⟨gb111, 7, none⟩ = some (.string (⟨#[]⟩ : ByteArray)) := (blk_cell BK111.out 7).trans rfl; have hcz33_8 : w31.cell? ⟨gb111, 8, none⟩ = some (.int .i64 0) := (blk_cell BK111.out 8).trans rfl; have hcz33_9 : w31.cell? ⟨gb111, 9, none⟩ = some (.bool false) := (blk_cell BK111.out 9).trans rfl; have hcz33_10 : w31.cell? ⟨gb111, 10, none⟩ = some (.string (⟨#[]⟩ : ByteArray)) := (blk_cell BK111.out 10).trans rfl; have hcz33_11 : w31.cell? ⟨gb111, 11, none⟩ = some (.bool false) := (blk_cell BK111.out 11).trans rfl; have hcz33_12 : w31.cell? ⟨gb111, 12, none⟩ = some (.string (⟨#[]⟩ : ByteArray)) := (blk_cell BK111.out 12).trans rfl; have hcz33_13 : w31.cell? ⟨gb111, 13, none⟩ = some (.int .i64 0) := (blk_cell BK111.out 13).trans rfl; have hfz33_0 := blk_frozen BK111.out 0; have hfz33_1 := blk_frozen BK111.out 1; have hfz33_2 := blk_frozen BK111.out 2; have hfz33_3 := blk_frozen BK111.out 3; have hfz33_4 := blk_frozen BK111.out 4; have hfz33_5 := blk_frozen BK111.out 5; have hfz33_6 := blk_frozen BK111.out 6; have hfz33_7 := blk_frozen BK111.out 7; have hfz33_8 := blk_frozen BK111.out 8; have hfz33_9 := blk_frozen BK111.out 9; have hfz33_10 := blk_frozen BK111.out 10; have hfz33_11 := blk_frozen BK111.out 11; have hfz33_12 := blk_frozen BK111.out 12; have hfz33_13 := blk_frozen BK111.out 13) | ((with_reducible refine gate_builtin (b := .append) (xs := #[.tmp 37, .tmp 40]) rfl ?_); at_builtin; refine Kd.R_append_rows k45 (w0 := w) w.heap.size rfl (.tmp 37) (.tmp 40) 22 45 (.agg #[(.bool false), (.string ⟨#[]⟩), (.bool false), (.string ⟨#[]⟩), (.int .i64 0)]) 56 rfl Try.underlying22 info45 rfl (by decide) (by omega) u4 x4_1 ((rd_T47 l0_2 x5_1).atom.args) _ _ _ (fun _ => True) (fun _ => False) rfl rfl ?aO ?aR (fun _ _ h => h) (fun _ h => h.elim) ?aF ?aB ?aS ?aL ?_; (case aR => exact Kd.C_below HR110_2.out (by repeat (first | (with_reducible first | exact HB.out | apply below_alloc | apply pw_below_drewN | apply below_drew1 | refine below_set ?_ GE101.out | refine below_set ?_ GE111.out) | exact HB.out))); (case aB => exact (by repeat (first | (with_reducible first | exact HB.out | apply below_alloc | apply pw_below_drewN | apply below_drew1 | refine below_set ?_ GE101.out | refine below_set ?_ GE111.out) | exact HB.out))); (case aF => exact (fun _ _ => trivial)); (case aO => exact (by (with_reducible repeat (first | apply Kd.R_alloc | apply Kd.R_drewN | apply Kd.R_drew)); exact Kd.R_mono (Kd.R_far (p := ⟨gb111, 13, none⟩) (Kd.R_far (p := ⟨gb111, 12, none⟩) (Kd.R_far (p := ⟨gb111, 11, none⟩) (Kd.R_far (p := ⟨gb111, 10, none⟩) (Kd.R_far (p := ⟨gb111, 9, none⟩) (Kd.R_far (p := ⟨gb111, 8, none⟩) (Kd.R_far (p := ⟨gb111, 7, none⟩) (Kd.R_far (p := ⟨gb111, 6, none⟩) (Kd.R_far (p := ⟨gb111, 5, none⟩) (Kd.R_far (p := ⟨gb111, 4, none⟩) (Kd.R_far (p := ⟨gb111, 3, none⟩) (Kd.R_far (p := ⟨gb111, 2, none⟩) (Kd.R_far (p := ⟨gb111, 1, none⟩) (Kd.R_far (p := ⟨gb111, 0, none⟩) (Kd.R_types HO_4.out BK111.out (by decide)) (fun _ hk => hk.2) _) (fun _ hk => hk.2) _) (fun _ hk => hk.2) _) (fun _ hk => hk.2) _) (fun _ hk => hk.2) _) (fun _ hk => hk.2) _) (fun _ hk => hk.2) _) (fun _ hk => hk.2) _) (fun _ hk => hk.2) _) (fun _ hk => hk.2) _) (fun _ hk => hk.2) _) (fun _ hk => hk.2) _) (fun _ hk => hk.2) _) (fun _ hk => hk.2) _) (fun _ hk => trivial))); (case aS => exact (below_size (by repeat (first | (with_reducible first | exact HB.out | apply below_alloc | apply pw_below_drewN | apply below_drew1 | refine below_set ?_ GE101.out | refine below_set ?_ GE111.out) | exact HB.out)))); (case aL => have := LMc17.out; omega); intro v113 w34 ho hb hg hat; rw [← Ny112.out] at ho; have n0_ := Aside0.mk (blk_grown (g := gb101) (o := .cells #[.string a0_0, .slice A0_1 l0_1.length c0_1, .slice (some ad110) l0_2.length c0_2] 27 (0, 0)) (by repeat (first | (with_reducible first | exact BK101.out | refine blk_drewN ?_ _ | refine blk_drew ?_ | refine blk_alloc ?_ _) | refine blk_far ?_ NB101_111.out _ | exact BK101.out)) hg (Kd.R_ne HO_4.out BK101.out (by decide))); have n1_ := Aside0.mk (blk_grown (g := gb111) (o := .cells #[.int .i64 ((rd_T47 l0_2 x5_1).kind), .string ((rd_T47 l0_2 x5_1).atom.pred), .slice A110_2 ((rd_T47 l0_2 x5_1).atom.args).length c110_2, .string ((rd_T47 l0_2 x5_1).op), .bool ((rd_T47 l0_2 x5_1).l.isVar), .string ((rd_T47 l0_2 x5_1).l.name), .bool ((rd_T47 l0_2 x5_1).l.val.isSym), .string ((rd_T47 l0_2 x5_1).l.val.sym), .int .i64 ((rd_T47 l0_2 x5_1).l.val.n), .bool ((rd_T47 l0_2 x5_1).r.isVar), .string ((rd_T47 l0_2 x5_1).r.name), .bool ((rd_T47 l0_2 x5_1).r.val.isSym), .string ((rd_T47 l0_2 x5_1).r.val.sym), .int .i64 ((rd_T47 l0_2 x5_1).r.val.n)] 47 (0, 0)) (by (with_reducible repeat (first | refine blk_drewN ?_ _ | refine blk_drew ?_ | refine blk_alloc ?_ _)); refine blk_put (cs := #[.int .i64 ((rd_T47 l0_2 x5_1).kind), .string ((rd_T47 l0_2 x5_1).atom.pred), .slice A110_2 ((rd_T47 l0_2 x5_1).atom.args).length c110_2, .string ((rd_T47 l0_2 x5_1).op), .bool ((rd_T47 l0_2 x5_1).l.isVar), .string ((rd_T47 l0_2 x5_1).l.name), .bool ((rd_T47 l0_2 x5_1).l.val.isSym), .string ((rd_T47 l0_2 x5_1).l.val.sym), .int .i64 ((rd_T47 l0_2 x5_1).l.val.n), .bool ((rd_T47 l0_2 x5_1).r.isVar), .string ((rd_T47 l0_2 x5_1).r.name), .bool ((rd_T47 l0_2 x5_1).r.val.isSym), .string ((rd_T47 l0_2 x5_1).r.val.sym), .int .i64 0]) ?_ 13 _ rfl; (with_reducible repeat (first | refine blk_drewN ?_ _ | refine blk_drew ?_ | refine blk_alloc ?_ _)); refine blk_put (cs := #[.int .i64 ((rd_T47 l0_2 x5_1).kind), .string ((rd_T47 l0_2 x5_1).atom.pred), .slice A110_2 ((rd_T47 l0_2 x5_1).atom.args).length c110_2, .string ((rd_T47 l0_2 x5_1).op), .bool ((rd_T47 l0_2 x5_1).l.isVar), .string ((rd_T47 l0_2 x5_1).l.name), .bool ((rd_T47 l0_2 x5_1).l.val.isSym), .string ((rd_T47 l0_2 x5_1).l.val.sym), .int .i64 ((rd_T47 l0_2 x5_1).l.val.n), .bool ((rd_T47 l0_2 x5_1).r.isVar), .string ((rd_T47 l0_2 x5_1).r.name), .bool ((rd_T47 l0_2 x5_1).r.val.isSym), .string (⟨#[]⟩ : ByteArray), .int .i64 0]) ?_ 12 _ rfl; (with_reducible repeat (first | refine blk_drewN ?_ _ | refine blk_drew ?_ | refine blk_alloc ?_ _)); refine blk_put (cs := #[.int .i64 ((rd_T47 l0_2 x5_1).kind), .string ((rd_T47 l0_2 x5_1).atom.pred), .slice A110_2 ((rd_T47 l0_2 x5_1).atom.args).length c110_2, .string ((rd_T47 l0_2 x5_1).op), .bool ((rd_T47 l0_2 x5_1).l.isVar), .string ((rd_T47 l0_2 x5_1).l.name), .bool ((rd_T47 l0_2 x5_1).l.val.isSym), .string ((rd_T47 l0_2 x5_1).l.val.sym), .int .i64 ((rd_T47 l0_2 x5_1).l.val.n), .bool ((rd_T47 l0_2 x5_1).r.isVar), .string ((rd_T47 l0_2 x5_1).r.name), .bool false, .string (⟨#[]⟩ : ByteArray), .int .i64 0]) ?_ 11 _ rfl; (with_reducible repeat (first | refine blk_drewN ?_ _ | refine blk_drew ?_ | refine blk_alloc ?_ _)); refine blk_put (cs := #[.int .i64 ((rd_T47 l0_2 x5_1).kind), .string ((rd_T47 l0_2 x5_1).atom.pred), .slice A110_2 ((rd_T47 l0_2 x5_1).atom.args).length c110_2, .string ((rd_T47 l0_2 x5_1).op), .bool ((rd_T47 l0_2 x5_1).l.isVar), .string ((rd_T47 l0_2 x5_1).l.name), .bool ((rd_T47 l0_2 x5_1).l.val.isSym), .string ((rd_T47 l0_2 x5_1).l.val.sym), .int .i64 ((rd_T47 l0_2 x5_1).l.val.n), .bool ((rd_T47 l0_2 x5_1).r.isVar), .string (⟨#[]⟩ : ByteArray), .bool false, .string (⟨#[]⟩ : ByteArray), .int .i64 0]) ?_ 10 _ rfl; (with_reducible repeat (first | refine blk_drewN ?_ _ | refine blk_drew ?_ | refine blk_alloc ?_ _)); refine blk_put (cs := #[.int .i64 ((rd_T47 l0_2 x5_1).kind), .string ((rd_T47 l0_2 x5_1).atom.pred), .slice A110_2 ((rd_T47 l0_2 x5_1).atom.args).length c110_2, .string ((rd_T47 l0_2 x5_1).op), .bool ((rd_T47 l0_2 x5_1).l.isVar), .string ((rd_T47 l0_2 x5_1).l.name), .bool ((rd_T47 l0_2 x5_1).l.val.isSym), .string ((rd_T47 l0_2 x5_1).l.val.sym), .int .i64 ((rd_T47 l0_2 x5_1).l.val.n), .bool false, .string (⟨#[]⟩ : ByteArray), .bool false, .string (⟨#[]⟩ : ByteArray), .int .i64 0]) ?_ 9 _ rfl; (with_reducible repeat (first | refine blk_drewN ?_ _ | refine blk_drew ?_ | refine blk_alloc ?_ _)); refine blk_put (cs := #[.int .i64 ((rd_T47 l0_2 x5_1).kind), .string ((rd_T47 l0_2 x5_1).atom.pred), .slice A110_2 ((rd_T47 l0_2 x5_1).atom.args).length c110_2, .string ((rd_T47 l0_2 x5_1).op), .bool ((rd_T47 l0_2 x5_1).l.isVar), .string ((rd_T47 l0_2 x5_1).l.name), .bool ((rd_T47 l0_2 x5_1).l.val.isSym), .string ((rd_T47 l0_2 x5_1).l.val.sym), .int .i64 0, .bool false, .string (⟨#[]⟩ : ByteArray), .bool false, .string (⟨#[]⟩ : ByteArray), .int .i64 0]) ?_ 8 _ rfl; (with_reducible repeat (first | refine blk_drewN ?_ _ | refine blk_drew ?_ | refine blk_alloc ?_ _)); refine blk_put (cs := #[.int .i64 ((rd_T47 l0_2 x5_1).kind), .string ((rd_T47 l0_2 x5_1).atom.pred), .slice A110_2 ((rd_T47 l0_2 x5_1).atom.args).length c110_2, .string ((rd_T47 l0_2 x5_1).op), .bool ((rd_T47 l0_2 x5_1).l.isVar), .string ((rd_T47 l0_2 x5_1).l.name), .bool ((rd_T47 l0_2 x5_1).l.val.isSym), .string (⟨#[]⟩ : ByteArray), .int .i64 0, .bool false, .string (⟨#[]⟩ : ByteArray), .bool false, .string (⟨#[]⟩ : ByteArray), .int .i64 0]) ?_ 7 _ rfl; (with_reducible repeat (first | refine blk_drewN ?_ _ | refine blk_drew ?_ | refine blk_alloc ?_ _)); refine blk_put (cs := #[.int .i64 ((rd_T47 l0_2 x5_1).kind), .string ((rd_T47 l0_2 x5_1).atom.pred), .slice A110_2 ((rd_T47 l0_2 x5_1).atom.args).length c110_2, .string ((rd_T47 l0_2 x5_1).op), .bool ((rd_T47 l0_2 x5_1).l.isVar), .string ((rd_T47 l0_2 x5_1).l.name), .bool false, .string (⟨#[]⟩ : ByteArray), .int .i64 0, .bool false, .string (⟨#[]⟩ : ByteArray), .bool false, .string (⟨#[]⟩ : ByteArray), .int .i64 0]) ?_ 6 _ rfl; (with_reducible repeat (first | refine blk_drewN ?_ _ | refine blk_drew ?_ | refine blk_alloc ?_ _)); refine blk_put (cs := #[.int .i64 ((rd_T47 l0_2 x5_1).kind), .string ((rd_T47 l0_2 x5_1).atom.pred), .slice A110_2 ((rd_T47 l0_2 x5_1).atom.args).length c110_2, .string ((rd_T47 l0_2 x5_1).op), .bool ((rd_T47 l0_2 x5_1).l.isVar), .string (⟨#[]⟩ : ByteArray), .bool false, .string (⟨#[]⟩ : ByteArray), .int .i64 0, .bool false, .string (⟨#[]⟩ : ByteArray), .bool false, .string (⟨#[]⟩ : ByteArray), .int .i64 0]) ?_ 5 _ rfl; (with_reducible repeat (first | refine blk_drewN ?_ _ | refine blk_drew ?_ | refine blk_alloc ?_ _)); refine blk_put (cs := #[.int .i64 ((rd_T47 l0_2 x5_1).kind), .string ((rd_T47 l0_2 x5_1).atom.pred), .slice A110_2 ((rd_T47 l0_2 x5_1).atom.args).length c110_2, .string ((rd_T47 l0_2 x5_1).op), .bool false, .string (⟨#[]⟩ : ByteArray), .bool false, .string (⟨#[]⟩ : ByteArray), .int .i64 0, .bool false, .string (⟨#[]⟩ : ByteArray), .bool false, .string (⟨#[]⟩ : ByteArray), .int .i64 0]) ?_ 4 _ rfl; (with_reducible repeat (first | refine blk_drewN ?_ _ | refine blk_drew ?_ | refine blk_alloc ?_ _)); refine blk_put (cs := #[.int .i64 ((rd_T47 l0_2 x5_1).kind), .string ((rd_T47 l0_2 x5_1).atom.pred), .slice A110_2 ((rd_T47 l0_2 x5_1).atom.args).length c110_2, .string (⟨#[]⟩ : ByteArray), .bool false, .string (⟨#[]⟩ : ByteArray), .bool false, .string (⟨#[]⟩ : ByteArray), .int .i64 0, .bool false, .string (⟨#[]⟩ : ByteArray), .bool false, .string (⟨#[]⟩ : ByteArray), .int .i64 0]) ?_ 3 _ rfl; (with_reducible repeat (first | refine blk_drewN ?_ _ | refine blk_drew ?_ | refine blk_alloc ?_ _)); refine blk_put (cs := #[.int .i64 ((rd_T47 l0_2 x5_1).kind), .string ((rd_T47 l0_2 x5_1).atom.pred), .slice none 0 0, .string (⟨#[]⟩ : ByteArray), .bool false, .string (⟨#[]⟩ : ByteArray), .bool false, .string (⟨#[]⟩ : ByteArray), .int .i64 0, .bool false, .string (⟨#[]⟩ : ByteArray), .bool false, .string (⟨#[]⟩ : ByteArray), .int .i64 0]) ?_ 2 _ rfl; (with_reducible repeat (first | refine blk_drewN ?_ _ | refine blk_drew ?_ | refine blk_alloc ?_ _)); refine blk_put (cs := #[.int .i64 ((rd_T47 l0_2 x5_1).kind), .string (⟨#[]⟩ : ByteArray), .slice none 0 0, .string (⟨#[]⟩ : ByteArray), .bool false, .string (⟨#[]⟩ : ByteArray), .bool false, .string (⟨#[]⟩ : ByteArray), .int .i64 0, .bool false, .string (⟨#[]⟩ : ByteArray), .bool false, .string (⟨#[]⟩ : ByteArray), .int .i64 0]) ?_ 1 _ rfl; (with_reducible repeat (first | refine blk_drewN ?_ _ | refine blk_drew ?_ | refine blk_alloc ?_ _)); refine blk_put (cs := #[.int .i64 0, .string (⟨#[]⟩ : ByteArray), .slice none 0 0, .string (⟨#[]⟩ : ByteArray), .bool false, .string (⟨#[]⟩ : ByteArray), .bool false, .string (⟨#[]⟩ : ByteArray), .int .i64 0, .bool false, .string (⟨#[]⟩ : ByteArray), .bool false, .string (⟨#[]⟩ : ByteArray), .int .i64 0]) ?_ 0 _ rfl; (with_reducible repeat (first | refine blk_drewN ?_ _ | refine blk_drew ?_ | refine blk_alloc ?_ _)); exact BK111.out) hg (Kd.R_ne HO_4.out BK111.out (by decide))); have n2_ := Aside0.mk (hb); have n3_ := Aside0.mk (ho); clear BK101; clear BK111; clear HB; clear HO_4; have BK101 := n0_; have BK111 := n1_; have HB := n2_; have HO114 := n3_; clear n0_ n1_ n2_ n3_; clear ho hb hg hat; have hcz35_0 : w34.cell? ⟨gb111, 0, none⟩ = some (.int .i64 ((rd_T47 l0_2 x5_1).kind)) := (blk_cell BK111.out 0).trans rfl; have hcz35_1 : w34.cell? ⟨gb111, 1, none⟩ = some (.string ((rd_T47 l0_2 x5_1).atom.pred)) := (blk_cell BK111.out 1).trans rfl; have hcz35_2 : w34.cell? ⟨gb111, 2, none⟩ = some (.slice A110_2 ((rd_T47 l0_2 x5_1).atom.args).length c110_2) := (blk_cell BK111.out 2).trans rfl; have hcz35_3 : w34.cell? ⟨gb111, 3, none⟩ = some (.string ((rd_T47 l0_2 x5_1).op)) := (blk_cell BK111.out 3).trans rfl; have hcz35_4 : w34.cell? ⟨gb111, 4, none⟩ = some (.bool ((rd_T47 l0_2 x5_1).l.isVar)) := (blk_cell BK111.out 4).trans rfl; have hcz35_5 : w34.cell? ⟨gb111, 5, none⟩ = some (.string ((rd_T47 l0_2 x5_1).l.name)) := (blk_cell BK111.out 5).trans rfl; have hcz35_6 : w34.cell? ⟨gb111, 6, none⟩ = some (.bool ((rd_T47 l0_2 x5_1).l.val.isSym)) := (blk_cell BK111.out 6).trans rfl; have hcz35_7 : w34.cell? ⟨gb111, 7, none⟩ = some (.string ((rd_T47 l0_2 x5_1).l.val.sym)) := (blk_cell BK111.out 7).trans rfl; have hcz35_8 : w34.cell? ⟨gb111, 8, none⟩ = some (.int .i64 ((rd_T47 l0_2 x5_1).l.val.n)) := (blk_cell BK111.out 8).trans rfl; have hcz35_9 : w34.cell? ⟨gb111, 9, none⟩ = some (.bool ((rd_T47 l0_2 x5_1).r.isVar)) := (blk_cell BK111.out 9).trans rfl; have hcz35_10 : w34.cell? ⟨gb111, 10, none⟩ = some (.string ((rd_T47 l0_2 x5_1).r.name)) := (blk_cell BK111.out 10).trans rfl; have hcz35_11 : w34.cell? ⟨gb111, 11, none⟩ = some (.bool ((rd_T47 l0_2 x5_1).r.val.isSym)) := (blk_cell BK111.out 11).trans rfl; have hcz35_12 : w34.cell? ⟨gb111, 12, none⟩ = some (.string ((rd_T47 l0_2 x5_1).r.val.sym)) := (blk_cell BK111.out 12).trans rfl; have hcz35_13 : w34.cell? ⟨gb111, 13, none⟩ = some (.int .i64 ((rd_T47 l0_2 x5_1).r.val.n)) := (blk_cell BK111.out 13).trans rfl; have hfz35_0 := blk_frozen BK111.out 0; have hfz35_1 := blk_frozen BK111.out 1; have hfz35_2 := blk_frozen BK111.out 2; have hfz35_3 := blk_frozen BK111.out 3; have hfz35_4 := blk_frozen BK111.out 4; have hfz35_5 := blk_frozen BK111.out 5; have hfz35_6 := blk_frozen BK111.out 6; have hfz35_7 := blk_frozen BK111.out 7; have hfz35_8 := blk_frozen BK111.out 8; have hfz35_9 := blk_frozen BK111.out 9; have hfz35_10 := blk_frozen BK111.out 10; have hfz35_11 := blk_frozen BK111.out 11; have hfz35_12 := blk_frozen BK111.out 12; have hfz35_13 := blk_frozen BK111.out 13))
          go_roundg k1
          case measure => have := HK1.out; omega
          case rel => exact ⟨(y112), (wrap64 (x5_1 + 1)), (by first | rfl | (simp; done) | (simp [*]; done)), H', ⟨by have := HK1.out; omega⟩, ⟨by (with_reducible repeat (first | apply Kd.R_alloc | apply Kd.R_drewN | apply Kd.R_drew)); exact HO114.out⟩, ⟨by (with_reducible repeat (first | refine blk_drewN ?_ _ | refine blk_drew ?_ | refine blk_alloc ?_ _)); exact BK101.out⟩, ⟨by repeat (first | (with_reducible first | exact HB.out | apply below_alloc | apply pw_below_drewN | apply below_drew1 | refine below_set ?_ GE101.out | refine below_set ?_ GE111.out) | exact HB.out)⟩⟩
        ·rw [if_neg c17] at H
         exact absurd H (by simp)
       ·rw [if_neg c16] at H
        have c16b0 : (((rd_T47 l0_2 x5_1).kind) == 2) = false := beq_eq_false_iff_ne.mpr c16
        have c16b1 : (((rd_T47 l0_2 x5_1).kind) != 2) = true := bne_iff_ne.mpr c16
        by_cases c36 : ((rd_T47 l0_2 x5_1).kind) = 3
        ·rw [if_pos c36] at H
         have c36b0 : (((rd_T47 l0_2 x5_1).kind) == 3) = true := beq_iff_eq.mpr c36
         have c36b1 : (((rd_T47 l0_2 x5_1).kind) != 3) = false := bne_eq_false_iff_eq.mpr c36
         clear c36
         obtain ⟨y121, hy121⟩ : ∃ y_ : List (Term), y_ = (([(⟨(rd_T47 l0_2 x5_1).l.isVar, (rd_T47 l0_2 x5_1).l.name, (⟨(rd_T47 l0_2 x5_1).l.val.isSym, (rd_T47 l0_2 x5_1).l.val.sym, (rd_T47 l0_2 x5_1).l.val.n⟩ : Val)⟩ : Term), (⟨(rd_T47 l0_2 x5_1).r.isVar, (rd_T47 l0_2 x5_1).r.name, (⟨(rd_T47 l0_2 x5_1).r.val.isSym, (rd_T47 l0_2 x5_1).r.val.sym, (rd_T47 l0_2 x5_1).r.val.n⟩ : Val)⟩ : Term)] : List (Term))) := ⟨_, rfl⟩
         replace H : (if x4_1.length + y121.length < 2513169434916 then (lambrequinlaw09_SafeJust.l0 k1 t102 (x4_1 ++ y121) (wrap64 (x5_1 + 1)) a0_0 l0_1 l0_2) else (none)) = some r := by first | (rw [hy121]; with_reducible exact H) | (have H2_ := (Option.bind_some _ _).symm.trans H; rw [hy121]; with_reducible exact H2_) | (have H2_ := (Option.bind_some _ _).symm.trans H; with_reducible exact H2_) | with_reducible exact H | (rw [hy121]; exact H) | exact H
         have Ny121 := Aside0.mk hy121
         clear hy121
         by_cases c37 : x4_1.length + y121.length < 2513169434916
         ·rw [if_pos c37] at H
          have LMc37 := Aside0.mk c37
          clear c37
          obtain ⟨y124, hy124⟩ : ∃ y_ : List (Term), y_ = (x4_1 ++ y121) := ⟨_, rfl⟩
          replace H : (lambrequinlaw09_SafeJust.l0 k1 t102 y124 (wrap64 (x5_1 + 1)) a0_0 l0_1 l0_2) = some r := by first | (rw [hy124]; with_reducible exact H) | (have H2_ := (Option.bind_some _ _).symm.trans H; rw [hy124]; with_reducible exact H2_) | (have H2_ := (Option.bind_some _ _).symm.trans H; with_reducible exact H2_) | with_reducible exact H | (rw [hy124]; exact H) | exact H
          have Ny124 := Aside0.mk hy124
          clear hy124
          have H' := Aside0.mk H
          clear H
          have hcz38_0 : wr.cell? ⟨gb101, 0, none⟩ = some (.string a0_0) := (blk_cell BK101.out 0).trans rfl
          have hcz38_1 : wr.cell? ⟨gb101, 1, none⟩ = some (.slice A0_1 l0_1.length c0_1) := (blk_cell BK101.out 1).trans rfl
          have hcz38_2 : wr.cell? ⟨gb101, 2, none⟩ = some (.slice A0_2 l0_2.length c0_2) := (blk_cell BK101.out 2).trans rfl
          have hfz38_0 := blk_frozen BK101.out 0
          have hfz38_1 := blk_frozen BK101.out 1
          have hfz38_2 := blk_frozen BK101.out 2
          have p110 : 0 ≤ (x5_1 : Int) := of_decide_eq_true (by first | (with_reducible assumption) | assumption)
          have q110 : x5_1 < (l0_2.length : Int) := of_decide_eq_true (by first | (with_reducible assumption) | assumption)
          obtain ⟨ad110, A110_2, c110_2, e110, hx110_0, hx110_1, hx110_2, hx110_3, hx110_4, hx110_5, hx110_6, hx110_7, hx110_8, hx110_9, hx110_10, hx110_11, hx110_12, hx110_13, hl110_2, hi110_2⟩ := at_T47 HR0_2.out x5_1 p110 q110
          cases e110
          replace hx110_0 := (HB.out.cell (blt_ hx110_0)).trans hx110_0
          replace hx110_1 := (HB.out.cell (blt_ hx110_1)).trans hx110_1
          replace hx110_2 := (HB.out.cell (blt_ hx110_2)).trans hx110_2
          replace hx110_3 := (HB.out.cell (blt_ hx110_3)).trans hx110_3
          replace hx110_4 := (HB.out.cell (blt_ hx110_4)).trans hx110_4
          replace hx110_5 := (HB.out.cell (blt_ hx110_5)).trans hx110_5
          replace hx110_6 := (HB.out.cell (blt_ hx110_6)).trans hx110_6
          replace hx110_7 := (HB.out.cell (blt_ hx110_7)).trans hx110_7
          replace hx110_8 := (HB.out.cell (blt_ hx110_8)).trans hx110_8
          replace hx110_9 := (HB.out.cell (blt_ hx110_9)).trans hx110_9
          replace hx110_10 := (HB.out.cell (blt_ hx110_10)).trans hx110_10
          replace hx110_11 := (HB.out.cell (blt_ hx110_11)).trans hx110_11
          replace hx110_12 := (HB.out.cell (blt_ hx110_12)).trans hx110_12
          replace hx110_13 := (HB.out.cell (blt_ hx110_13)).trans hx110_13
          have HR110_2 := Aside0.mk hi110_2
          have HC110_2 := Aside0.mk hl110_2
          clear hi110_2 hl110_2
          replace p110 := eq_true p110
          replace q110 := eq_true q110
          go_wp2_with (first | ((with_reducible refine gate_dst (N := 6) rfl ?_); refine box_event ?hg (N := 6) ?hd (cs := #[.int .i64 0, .string (⟨#[]⟩ : ByteArray), .slice none 0 0, .string (⟨#[]⟩ : ByteArray), .bool false, .string (⟨#[]⟩ : ByteArray), .bool false, .string (⟨#[]⟩ : ByteArray), .int .i64 0, .bool false, .string (⟨#[]⟩ : ByteArray), .bool false, .string (⟨#[]⟩ : ByteArray), .int .i64 0]) (t := 47) ?hr ?_; (case hd => rfl); (case hg => rfl); (case hr => first | (go_simp; done) | (go_simp; rfl)); intro gb111 hg w39 hbox hb; have n0_ := Aside0.mk (Kd.R_below (by (with_reducible repeat (first | apply Kd.R_alloc | apply Kd.R_drewN | apply Kd.R_drew)); exact HO_4.out) hb); have n1_ := Aside0.mk (blk_below (g := gb101) (o := .cells #[.string a0_0, .slice A0_1 l0_1.length c0_1, .slice (some ad110) l0_2.length c0_2] 27 (0, 0)) (by (with_reducible repeat (first | refine blk_drewN ?_ _ | refine blk_drew ?_ | refine blk_alloc ?_ _)); exact BK101.out) hb); have n2_ := Aside0.mk (below_step (by repeat (first | (with_reducible first | exact HB.out | apply below_alloc | apply pw_below_drewN | apply below_drew1 | refine below_set ?_ GE101.out) | exact HB.out)) hb); have n3_ := Aside0.mk (hbox); have n4_ := Aside0.mk ((by rw [hg]; exact (below_size (by repeat (first | (with_reducible first | exact HB.out | apply below_alloc | apply pw_below_drewN | apply below_drew1 | refine below_set ?_ GE101.out) | exact HB.out))) : w.heap.size ≤ gb111)); have n5_ := Aside0.mk ((by rw [hg]; exact (below_size (by repeat (first | (with_reducible first | exact HB.out | apply below_alloc | apply pw_below_drewN | apply below_drew1 | refine below_set ?_ GE101.out) | exact HB.out))) : w.heap.size ≤ gb111)); have n6_ := Aside0.mk ((by rw [hg]; exact Nat.ne_of_lt (blk_lt (g := gb101) (o := .cells #[.string a0_0, .slice A0_1 l0_1.length c0_1, .slice (some ad110) l0_2.length c0_2] 27 (0, 0)) (by (with_reducible repeat (first | refine blk_drewN ?_ _ | refine blk_drew ?_ | refine blk_alloc ?_ _)); exact BK101.out)) : gb101 ≠ gb111)); have n7_ := Aside0.mk ((by rw [hg]; exact Nat.ne_of_gt (blk_lt (g := gb101) (o := .cells #[.string a0_0, .slice A0_1 l0_1.length c0_1, .slice (some ad110) l0_2.length c0_2] 27 (0, 0)) (by (with_reducible repeat (first | refine blk_drewN ?_ _ | refine blk_drew ?_ | refine blk_alloc ?_ _)); exact BK101.out)) : gb111 ≠ gb101)); clear HO_4; clear BK101; clear HB; have HO_4 := n0_; have BK101 := n1_; have HB := n2_; have BK111 := n3_; have GW111 := n4_; have GE111 := n5_; have NB101_111 := n6_; have NB111_101 := n7_; clear n0_ n1_ n2_ n3_ n4_ n5_ n6_ n7_; clear hb hbox hg; have hnb40 := NB111_101.out; have hnc40 := NB101_111.out; have hcz41_0 : w39.cell? ⟨gb111, 0, none⟩ = some (.int .i64 0) := (blk_cell BK111.out 0).trans rfl; have hcz41_1 : w39.cell? ⟨gb111, 1, none⟩ = some (.string (⟨#[]⟩ : ByteArray)) := (blk_cell BK111.out 1).trans rfl; have hcz41_2 : w39.cell? ⟨gb111, 2, none⟩ = some (.slice none 0 0) := (blk_cell BK111.out 2).trans rfl; have hcz41_3 : w39.cell? ⟨gb111, 3, none⟩ = some (.string (⟨#[]⟩ : ByteArray)) := (blk_cell BK111.out 3).trans rfl; have hcz41_4 : w39.cell? ⟨gb111, 4, none⟩ = some (.bool false) := (blk_cell BK111.out 4).trans rfl; have hcz41_5 : w39.cell? ⟨gb111, 5, none⟩ = some (.string (⟨#[]⟩ : ByteArray)) := (blk_cell BK111.out 5).trans rfl; have hcz41_6 : w39.cell? ⟨gb111, 6, none⟩ = some (.bool false) := (blk_cell BK111.out 6).trans rfl; have hcz41_7 : w39.cell? ⟨gb111, 7, none⟩ = some (.string (⟨#[]⟩ : ByteArray)) := (blk_cell BK111.out 7).trans rfl; have hcz41_8 : w39.cell? ⟨gb111, 8, none⟩ = some (.int .i64 0) := (blk_cell BK111.out 8).trans rfl; have hcz41_9 : w39.cell? ⟨gb111, 9, none⟩ = some (.bool false) := (blk_cell BK111.out 9).trans rfl; have hcz41_10 : w39.cell? ⟨gb111, 10, none⟩ = some (.string (⟨#[]⟩ : ByteArray)) := (blk_cell BK111.out 10).trans rfl; have hcz41_11 : w39.cell? ⟨gb111, 11, none⟩ = some (.bool false) := (blk_cell BK111.out 11).trans rfl; have hcz41_12 : w39.cell? ⟨gb111, 12, none⟩ = some (.string (⟨#[]⟩ : ByteArray)) := (blk_cell BK111.out 12).trans rfl; have hcz41_13 : w39.cell? ⟨gb111, 13, none⟩ = some (.int .i64 0) := (blk_cell BK111.out 13).trans rfl; have hfz41_0 := blk_frozen BK111.out 0; have hfz41_1 := blk_frozen BK111.out 1; have hfz41_2 := blk_frozen BK111.out 2; have hfz41_3 := blk_frozen BK111.out 3; have hfz41_4 := blk_frozen BK111.out 4; have hfz41_5 := blk_frozen BK111.out 5; have hfz41_6 := blk_frozen BK111.out 6; have hfz41_7 := blk_frozen BK111.out 7; have hfz41_8 := blk_frozen BK111.out 8; have hfz41_9 := blk_frozen BK111.out 9; have hfz41_10 := blk_frozen BK111.out 10; have hfz41_11 := blk_frozen BK111.out 11; have hfz41_12 := blk_frozen BK111.out 12; have hfz41_13 := blk_frozen BK111.out 13) | ((with_reducible refine gate_dst (N := 50) rfl ?_); refine Kd.R_lit k45 _ 45 ?hg (N := 50) ?hd (xs := ([(⟨(rd_T47 l0_2 x5_1).l.isVar, (rd_T47 l0_2 x5_1).l.name, (⟨(rd_T47 l0_2 x5_1).l.val.isSym, (rd_T47 l0_2 x5_1).l.val.sym, (rd_T47 l0_2 x5_1).l.val.n⟩ : Val)⟩ : Term), (⟨(rd_T47 l0_2 x5_1).r.isVar, (rd_T47 l0_2 x5_1).r.name, (⟨(rd_T47 l0_2 x5_1).r.val.isSym, (rd_T47 l0_2 x5_1).r.val.sym, (rd_T47 l0_2 x5_1).r.val.n⟩ : Val)⟩ : Term)] : List (Term))) (inner := [.bool ((rd_T47 l0_2 x5_1).l.isVar), .string ((rd_T47 l0_2 x5_1).l.name), .bool ((rd_T47 l0_2 x5_1).l.val.isSym), .string ((rd_T47 l0_2 x5_1).l.val.sym), .int .i64 ((rd_T47 l0_2 x5_1).l.val.n), .bool ((rd_T47 l0_2 x5_1).r.isVar), .string ((rd_T47 l0_2 x5_1).r.name), .bool ((rd_T47 l0_2 x5_1).r.val.isSym), .string ((rd_T47 l0_2 x5_1).r.val.sym), .int .i64 ((rd_T47 l0_2 x5_1).r.val.n)]) (ok := fun _ => True) (okp := fun _ => True) ?hr ?hp (fun _ hk => hk) trivial (Below.refl _ _) (Nat.le_refl _) (by simp) ?_; (case hd => rfl); (case hg => rfl); (case hr => first | (go_simp; done) | (go_simp; rfl)); (case hp => exact (Reps.c5 (show Kd.M k45 _ _ _ (⟨(rd_T47 l0_2 x5_1).l.isVar, (rd_T47 l0_2 x5_1).l.name, (⟨(rd_T47 l0_2 x5_1).l.val.isSym, (rd_T47 l0_2 x5_1).l.val.sym, (rd_T47 l0_2 x5_1).l.val.n⟩ : Val)⟩ : Term) [.bool ((rd_T47 l0_2 x5_1).l.isVar), .string ((rd_T47 l0_2 x5_1).l.name), .bool ((rd_T47 l0_2 x5_1).l.val.isSym), .string ((rd_T47 l0_2 x5_1).l.val.sym), .int .i64 ((rd_T47 l0_2 x5_1).l.val.n)] from (k45_mkM _ _ _ (⟨(rd_T47 l0_2 x5_1).l.isVar, (rd_T47 l0_2 x5_1).l.name, (⟨(rd_T47 l0_2 x5_1).l.val.isSym, (rd_T47 l0_2 x5_1).l.val.sym, (rd_T47 l0_2 x5_1).l.val.n⟩ : Val)⟩ : Term) )) (Reps.c5 (show Kd.M k45 _ _ _ (⟨(rd_T47 l0_2 x5_1).r.isVar, (rd_T47 l0_2 x5_1).r.name, (⟨(rd_T47 l0_2 x5_1).r.val.isSym, (rd_T47 l0_2 x5_1).r.val.sym, (rd_T47 l0_2 x5_1).r.val.n⟩ : Val)⟩ : Term) [.bool ((rd_T47 l0_2 x5_1).r.isVar), .string ((rd_T47 l0_2 x5_1).r.name), .bool ((rd_T47 l0_2 x5_1).r.val.isSym), .string ((rd_T47 l0_2 x5_1).r.val.sym), .int .i64 ((rd_T47 l0_2 x5_1).r.val.n)] from (k45_mkM _ _ _ (⟨(rd_T47 l0_2 x5_1).r.isVar, (rd_T47 l0_2 x5_1).r.name, (⟨(rd_T47 l0_2 x5_1).r.val.isSym, (rd_T47 l0_2 x5_1).r.val.sym, (rd_T47 l0_2 x5_1).r.val.n⟩ : Val)⟩ : Term) )) (Reps.none _ _)))); intro v122 w42 ho43 hb hg_ hnew_; clear hg_ hnew_; (first | rw [← Ny121.out] at ho43 | (simp only [Int.reduceToNat] at ho43; rw [← Ny121.out] at ho43)); have n0_ := Aside0.mk (Kd.R_elder' (by (with_reducible repeat (first | apply Kd.R_alloc | apply Kd.R_drewN | apply Kd.R_drew)); exact (Kd.R_mono (Kd.R_far (p := ⟨gb111, 13, none⟩) (Kd.R_far (p := ⟨gb111, 12, none⟩) (Kd.R_far (p := ⟨gb111, 11, none⟩) (Kd.R_far (p := ⟨gb111, 10, none⟩) (Kd.R_far (p := ⟨gb111, 9, none⟩) (Kd.R_far (p := ⟨gb111, 8, none⟩) (Kd.R_far (p := ⟨gb111, 7, none⟩) (Kd.R_far (p := ⟨gb111, 6, none⟩) (Kd.R_far (p := ⟨gb111, 5, none⟩) (Kd.R_far (p := ⟨gb111, 4, none⟩) (Kd.R_far (p := ⟨gb111, 3, none⟩) (Kd.R_far (p := ⟨gb111, 2, none⟩) (Kd.R_far (p := ⟨gb111, 1, none⟩) (Kd.R_far (p := ⟨gb111, 0, none⟩) (Kd.R_types HO_4.out BK111.out (by decide)) (fun _ hk => hk.2) _) (fun _ hk => hk.2) _) (fun _ hk => hk.2) _) (fun _ hk => hk.2) _) (fun _ hk => hk.2) _) (fun _ hk => hk.2) _) (fun _ hk => hk.2) _) (fun _ hk => hk.2) _) (fun _ hk => hk.2) _) (fun _ hk => hk.2) _) (fun _ hk => hk.2) _) (fun _ hk => hk.2) _) (fun _ hk => hk.2) _) (fun _ hk => hk.2) _) (fun _ h_ => h_.1))) (Kd.R_base ho43) hb); have n1_ := Aside0.mk (Kd.R_lower (Kd.R_new' ho43 (Kd.R_lt (by (with_reducible repeat (first | apply Kd.R_alloc | apply Kd.R_drewN | apply Kd.R_drew)); exact (Kd.R_mono (Kd.R_far (p := ⟨gb111, 13, none⟩) (Kd.R_far (p := ⟨gb111, 12, none⟩) (Kd.R_far (p := ⟨gb111, 11, none⟩) (Kd.R_far (p := ⟨gb111, 10, none⟩) (Kd.R_far (p := ⟨gb111, 9, none⟩) (Kd.R_far (p := ⟨gb111, 8, none⟩) (Kd.R_far (p := ⟨gb111, 7, none⟩) (Kd.R_far (p := ⟨gb111, 6, none⟩) (Kd.R_far (p := ⟨gb111, 5, none⟩) (Kd.R_far (p := ⟨gb111, 4, none⟩) (Kd.R_far (p := ⟨gb111, 3, none⟩) (Kd.R_far (p := ⟨gb111, 2, none⟩) (Kd.R_far (p := ⟨gb111, 1, none⟩) (Kd.R_far (p := ⟨gb111, 0, none⟩) (Kd.R_types HO_4.out BK111.out (by decide)) (fun _ hk => hk.2) _) (fun _ hk => hk.2) _) (fun _ hk => hk.2) _) (fun _ hk => hk.2) _) (fun _ hk => hk.2) _) (fun _ hk => hk.2) _) (fun _ hk => hk.2) _) (fun _ hk => hk.2) _) (fun _ hk => hk.2) _) (fun _ hk => hk.2) _) (fun _ hk => hk.2) _) (fun _ hk => hk.2) _) (fun _ hk => hk.2) _) (fun _ hk => hk.2) _) (fun _ h_ => h_.1))))) (below_size (by repeat (first | (with_reducible first | exact HB.out | apply below_alloc | apply pw_below_drewN | apply below_drew1 | refine below_set ?_ GE101.out | refine below_set ?_ GE111.out) | exact HB.out)))); have n2_ := Aside0.mk (blk_below (g := gb101) (o := .cells #[.string a0_0, .slice A0_1 l0_1.length c0_1, .slice (some ad110) l0_2.length c0_2] 27 (0, 0)) (by repeat (first | (with_reducible first | exact BK101.out | refine blk_drewN ?_ _ | refine blk_drew ?_ | refine blk_alloc ?_ _) | refine blk_far ?_ NB101_111.out _ | exact BK101.out)) hb); have n3_ := Aside0.mk (blk_below (g := gb111) (o := .cells #[.int .i64 ((rd_T47 l0_2 x5_1).kind), .string ((rd_T47 l0_2 x5_1).atom.pred), .slice A110_2 ((rd_T47 l0_2 x5_1).atom.args).length c110_2, .string ((rd_T47 l0_2 x5_1).op), .bool ((rd_T47 l0_2 x5_1).l.isVar), .string ((rd_T47 l0_2 x5_1).l.name), .bool ((rd_T47 l0_2 x5_1).l.val.isSym), .string ((rd_T47 l0_2 x5_1).l.val.sym), .int .i64 ((rd_T47 l0_2 x5_1).l.val.n), .bool ((rd_T47 l0_2 x5_1).r.isVar), .string ((rd_T47 l0_2 x5_1).r.name), .bool ((rd_T47 l0_2 x5_1).r.val.isSym), .string ((rd_T47 l0_2 x5_1).r.val.sym), .int .i64 ((rd_T47 l0_2 x5_1).r.val.n)] 47 (0, 0)) (by (with_reducible repeat (first | refine blk_drewN ?_ _ | refine blk_drew ?_ | refine blk_alloc ?_ _)); refine blk_put (cs := #[.int .i64 ((rd_T47 l0_2 x5_1).kind), .string ((rd_T47 l0_2 x5_1).atom.pred), .slice A110_2 ((rd_T47 l0_2 x5_1).atom.args).length c110_2, .string ((rd_T47 l0_2 x5_1).op), .bool ((rd_T47 l0_2 x5_1).l.isVar), .string ((rd_T47 l0_2 x5_1).l.name), .bool ((rd_T47 l0_2 x5_1).l.val.isSym), .string ((rd_T47 l0_2 x5_1).l.val.sym), .int .i64 ((rd_T47 l0_2 x5_1).l.val.n), .bool ((rd_T47 l0_2 x5_1).r.isVar), .string ((rd_T47 l0_2 x5_1).r.name), .bool ((rd_T47 l0_2 x5_1).r.val.isSym), .string ((rd_T47 l0_2 x5_1).r.val.sym), .int .i64 0]) ?_ 13 _ rfl; (with_reducible repeat (first | refine blk_drewN ?_ _ | refine blk_drew ?_ | refine blk_alloc ?_ _)); refine blk_put (cs := #[.int .i64 ((rd_T47 l0_2 x5_1).kind), .string ((rd_T47 l0_2 x5_1).atom.pred), .slice A110_2 ((rd_T47 l0_2 x5_1).atom.args).length c110_2, .string ((rd_T47 l0_2 x5_1).op), .bool ((rd_T47 l0_2 x5_1).l.isVar), .string ((rd_T47 l0_2 x5_1).l.name), .bool ((rd_T47 l0_2 x5_1).l.val.isSym), .string ((rd_T47 l0_2 x5_1).l.val.sym), .int .i64 ((rd_T47 l0_2 x5_1).l.val.n), .bool ((rd_T47 l0_2 x5_1).r.isVar), .string ((rd_T47 l0_2 x5_1).r.name), .bool ((rd_T47 l0_2 x5_1).r.val.isSym), .string (⟨#[]⟩ : ByteArray), .int .i64 0]) ?_ 12 _ rfl; (with_reducible repeat (first | refine blk_drewN ?_ _ | refine blk_drew ?_ | refine blk_alloc ?_ _)); refine blk_put (cs := #[.int .i64 ((rd_T47 l0_2 x5_1).kind), .string ((rd_T47 l0_2 x5_1).atom.pred), .slice A110_2 ((rd_T47 l0_2 x5_1).atom.args).length c110_2, .string ((rd_T47 l0_2 x5_1).op), .bool ((rd_T47 l0_2 x5_1).l.isVar), .string ((rd_T47 l0_2 x5_1).l.name), .bool ((rd_T47 l0_2 x5_1).l.val.isSym), .string ((rd_T47 l0_2 x5_1).l.val.sym), .int .i64 ((rd_T47 l0_2 x5_1).l.val.n), .bool ((rd_T47 l0_2 x5_1).r.isVar), .string ((rd_T47 l0_2 x5_1).r.name), .bool false, .string (⟨#[]⟩ : ByteArray), .int .i64 0]) ?_ 11 _ rfl; (with_reducible repeat (first | refine blk_drewN ?_ _ | refine blk_drew ?_ | refine blk_alloc ?_ _)); refine blk_put (cs := #[.int .i64 ((rd_T47 l0_2 x5_1).kind), .string ((rd_T47 l0_2 x5_1).atom.pred), .slice A110_2 ((rd_T47 l0_2 x5_1).atom.args).length c110_2, .string ((rd_T47 l0_2 x5_1).op), .bool ((rd_T47 l0_2 x5_1).l.isVar), .string ((rd_T47 l0_2 x5_1).l.name), .bool ((rd_T47 l0_2 x5_1).l.val.isSym), .string ((rd_T47 l0_2 x5_1).l.val.sym), .int .i64 ((rd_T47 l0_2 x5_1).l.val.n), .bool ((rd_T47 l0_2 x5_1).r.isVar), .string (⟨#[]⟩ : ByteArray), .bool false, .string (⟨#[]⟩ : ByteArray), .int .i64 0]) ?_ 10 _ rfl; (with_reducible repeat (first | refine blk_drewN ?_ _ | refine blk_drew ?_ | refine blk_alloc ?_ _)); refine blk_put (cs := #[.int .i64 ((rd_T47 l0_2 x5_1).kind), .string ((rd_T47 l0_2 x5_1).atom.pred), .slice A110_2 ((rd_T47 l0_2 x5_1).atom.args).length c110_2, .string ((rd_T47 l0_2 x5_1).op), .bool ((rd_T47 l0_2 x5_1).l.isVar), .string ((rd_T47 l0_2 x5_1).l.name), .bool ((rd_T47 l0_2 x5_1).l.val.isSym), .string ((rd_T47 l0_2 x5_1).l.val.sym), .int .i64 ((rd_T47 l0_2 x5_1).l.val.n), .bool false, .string (⟨#[]⟩ : ByteArray), .bool false, .string (⟨#[]⟩ : ByteArray), .int .i64 0]) ?_ 9 _ rfl; (with_reducible repeat (first | refine blk_drewN ?_ _ | refine blk_drew ?_ | refine blk_alloc ?_ _)); refine blk_put (cs := #[.int .i64 ((rd_T47 l0_2 x5_1).kind), .string ((rd_T47 l0_2 x5_1).atom.pred), .slice A110_2 ((rd_T47 l0_2 x5_1).atom.args).length c110_2, .string ((rd_T47 l0_2 x5_1).op), .bool ((rd_T47 l0_2 x5_1).l.isVar), .string ((rd_T47 l0_2 x5_1).l.name), .bool ((rd_T47 l0_2 x5_1).l.val.isSym), .string ((rd_T47 l0_2 x5_1).l.val.sym), .int .i64 0, .bool false, .string (⟨#[]⟩ : ByteArray), .bool false, .string (⟨#[]⟩ : ByteArray), .int .i64 0]) ?_ 8 _ rfl; (with_reducible repeat (first | refine blk_drewN ?_ _ | refine blk_drew ?_ | refine blk_alloc ?_ _)); refine blk_put (cs := #[.int .i64 ((rd_T47 l0_2 x5_1).kind), .string ((rd_T47 l0_2 x5_1).atom.pred), .slice A110_2 ((rd_T47 l0_2 x5_1).atom.args).length c110_2, .string ((rd_T47 l0_2 x5_1).op), .bool ((rd_T47 l0_2 x5_1).l.isVar), .string ((rd_T47 l0_2 x5_1).l.name), .bool ((rd_T47 l0_2 x5_1).l.val.isSym), .string (⟨#[]⟩ : ByteArray), .int .i64 0, .bool false, .string (⟨#[]⟩ : ByteArray), .bool false, .string (⟨#[]⟩ : ByteArray), .int .i64 0]) ?_ 7 _ rfl; (with_reducible repeat (first | refine blk_drewN ?_ _ | refine blk_drew ?_ | refine blk_alloc ?_ _)); refine blk_put (cs := #[.int .i64 ((rd_T47 l0_2 x5_1).kind), .string ((rd_T47 l0_2 x5_1).atom.pred), .slice A110_2 ((rd_T47 l0_2 x5_1).atom.args).length c110_2, .string ((rd_T47 l0_2 x5_1).op), .bool ((rd_T47 l0_2 x5_1).l.isVar), .string ((rd_T47 l0_2 x5_1).l.name), .bool false, .string (⟨#[]⟩ : ByteArray), .int .i64 0, .bool false, .string (⟨#[]⟩ : ByteArray), .bool false, .string (⟨#[]⟩ : ByteArray), .int .i64 0]) ?_ 6 _ rfl; (with_reducible repeat (first | refine blk_drewN ?_ _ | refine blk_drew ?_ | refine blk_alloc ?_ _)); refine blk_put (cs := #[.int .i64 ((rd_T47 l0_2 x5_1).kind), .string ((rd_T47 l0_2 x5_1).atom.pred), .slice A110_2 ((rd_T47 l0_2 x5_1).atom.args).length c110_2, .string ((rd_T47 l0_2 x5_1).op), .bool ((rd_T47 l0_2 x5_1).l.isVar), .string (⟨#[]⟩ : ByteArray), .bool false, .string (⟨#[]⟩ : ByteArray), .int .i64 0, .bool false, .string (⟨#[]⟩ : ByteArray), .bool false, .string (⟨#[]⟩ : ByteArray), .int .i64 0]) ?_ 5 _ rfl; (with_reducible repeat (first | refine blk_drewN ?_ _ | refine blk_drew ?_ | refine blk_alloc ?_ _)); refine blk_put (cs := #[.int .i64 ((rd_T47 l0_2 x5_1).kind), .string ((rd_T47 l0_2 x5_1).atom.pred), .slice A110_2 ((rd_T47 l0_2 x5_1).atom.args).length c110_2, .string ((rd_T47 l0_2 x5_1).op), .bool false, .string (⟨#[]⟩ : ByteArray), .bool false, .string (⟨#[]⟩ : ByteArray), .int .i64 0, .bool false, .string (⟨#[]⟩ : ByteArray), .bool false, .string (⟨#[]⟩ : ByteArray), .int .i64 0]) ?_ 4 _ rfl; (with_reducible repeat (first | refine blk_drewN ?_ _ | refine blk_drew ?_ | refine blk_alloc ?_ _)); refine blk_put (cs := #[.int .i64 ((rd_T47 l0_2 x5_1).kind), .string ((rd_T47 l0_2 x5_1).atom.pred), .slice A110_2 ((rd_T47 l0_2 x5_1).atom.args).length c110_2, .string (⟨#[]⟩ : ByteArray), .bool false, .string (⟨#[]⟩ : ByteArray), .bool false, .string (⟨#[]⟩ : ByteArray), .int .i64 0, .bool false, .string (⟨#[]⟩ : ByteArray), .bool false, .string (⟨#[]⟩ : ByteArray), .int .i64 0]) ?_ 3 _ rfl; (with_reducible repeat (first | refine blk_drewN ?_ _ | refine blk_drew ?_ | refine blk_alloc ?_ _)); refine blk_put (cs := #[.int .i64 ((rd_T47 l0_2 x5_1).kind), .string ((rd_T47 l0_2 x5_1).atom.pred), .slice none 0 0, .string (⟨#[]⟩ : ByteArray), .bool false, .string (⟨#[]⟩ : ByteArray), .bool false, .string (⟨#[]⟩ : ByteArray), .int .i64 0, .bool false, .string (⟨#[]⟩ : ByteArray), .bool false, .string (⟨#[]⟩ : ByteArray), .int .i64 0]) ?_ 2 _ rfl; (with_reducible repeat (first | refine blk_drewN ?_ _ | refine blk_drew ?_ | refine blk_alloc ?_ _)); refine blk_put (cs := #[.int .i64 ((rd_T47 l0_2 x5_1).kind), .string (⟨#[]⟩ : ByteArray), .slice none 0 0, .string (⟨#[]⟩ : ByteArray), .bool false, .string (⟨#[]⟩ : ByteArray), .bool false, .string (⟨#[]⟩ : ByteArray), .int .i64 0, .bool false, .string (⟨#[]⟩ : ByteArray), .bool false, .string (⟨#[]⟩ : ByteArray), .int .i64 0]) ?_ 1 _ rfl; (with_reducible repeat (first | refine blk_drewN ?_ _ | refine blk_drew ?_ | refine blk_alloc ?_ _)); refine blk_put (cs := #[.int .i64 0, .string (⟨#[]⟩ : ByteArray), .slice none 0 0, .string (⟨#[]⟩ : ByteArray), .bool false, .string (⟨#[]⟩ : ByteArray), .bool false, .string (⟨#[]⟩ : ByteArray), .int .i64 0, .bool false, .string (⟨#[]⟩ : ByteArray), .bool false, .string (⟨#[]⟩ : ByteArray), .int .i64 0]) ?_ 0 _ rfl; (with_reducible repeat (first | refine blk_drewN ?_ _ | refine blk_drew ?_ | refine blk_alloc ?_ _)); exact BK111.out) hb); have n4_ := Aside0.mk (below_step (by repeat (first | (with_reducible first | exact HB.out | apply below_alloc | apply pw_below_drewN | apply below_drew1 | refine below_set ?_ GE101.out | refine below_set ?_ GE111.out) | exact HB.out)) hb); clear HO_4; clear BK101; clear BK111; clear HB; have HO_4 := n0_; have HO123 := n1_; have BK101 := n2_; have BK111 := n3_; have HB := n4_; clear n0_ n1_ n2_ n3_ n4_; clear hb ho43; obtain ⟨Ao45, co45, eo45⟩ := Kd.R_slice HO123.out; subst eo45) | ((with_reducible refine gate_builtin (b := .append) (xs := #[.tmp 45, .tmp 50]) rfl ?_); at_builtin; refine Kd.R_append_rows k45 (w0 := w) w.heap.size rfl (.tmp 45) (.tmp 50) 22 45 (.agg #[(.bool false), (.string ⟨#[]⟩), (.bool false), (.string ⟨#[]⟩), (.int .i64 0)]) 56 rfl Try.underlying22 info45 rfl (by decide) (by omega) u4 x4_1 y121 _ _ _ (fun k_ => some k_ ≠ (.slice Ao45 y121.length co45 : Value).ownBlock) (fun _ => False) rfl rfl ?aO ?aR (fun _ _ h => h) (fun _ h => h.elim) ?aF ?aB ?aS ?aL ?_; (case aR => repeat (first | exact (Kd.R_reads' HO123.out).2.2 | (with_reducible refine Kd.C_alloc ?_ _) | (with_reducible refine Kd.C_drewN ?_ _) | (with_reducible refine Kd.C_drew ?_))); (case aB => exact (by repeat (first | (with_reducible first | exact HB.out | apply below_alloc | apply pw_below_drewN | apply below_drew1 | refine below_set ?_ GE101.out | refine below_set ?_ GE111.out) | exact HB.out))); (case aF => exact (fun k_ hk => Kd.fresh' (Kd.R_lt (by (with_reducible repeat (first | apply Kd.R_alloc | apply Kd.R_drewN | apply Kd.R_drew)); exact HO123.out)) k_ hk)); (case aO => exact (by (with_reducible repeat (first | apply Kd.R_alloc | apply Kd.R_drewN | apply Kd.R_drew)); exact Kd.R_mono HO_4.out (fun _ hk => hk.2))); (case aS => exact (below_size (by repeat (first | (with_reducible first | exact HB.out | apply below_alloc | apply pw_below_drewN | apply below_drew1 | refine below_set ?_ GE101.out | refine below_set ?_ GE111.out) | exact HB.out)))); (case aL => have := LMc37.out; omega); intro v125 w44 ho hb hg hat; rw [← Ny124.out] at ho; have n0_ := Aside0.mk (blk_grown (g := gb101) (o := .cells #[.string a0_0, .slice A0_1 l0_1.length c0_1, .slice (some ad110) l0_2.length c0_2] 27 (0, 0)) (by (with_reducible repeat (first | refine blk_drewN ?_ _ | refine blk_drew ?_ | refine blk_alloc ?_ _)); exact BK101.out) hg (Kd.R_ne HO_4.out BK101.out (by decide))); have n1_ := Aside0.mk (blk_grown (g := gb111) (o := .cells #[.int .i64 ((rd_T47 l0_2 x5_1).kind), .string ((rd_T47 l0_2 x5_1).atom.pred), .slice A110_2 ((rd_T47 l0_2 x5_1).atom.args).length c110_2, .string ((rd_T47 l0_2 x5_1).op), .bool ((rd_T47 l0_2 x5_1).l.isVar), .string ((rd_T47 l0_2 x5_1).l.name), .bool ((rd_T47 l0_2 x5_1).l.val.isSym), .string ((rd_T47 l0_2 x5_1).l.val.sym), .int .i64 ((rd_T47 l0_2 x5_1).l.val.n), .bool ((rd_T47 l0_2 x5_1).r.isVar), .string ((rd_T47 l0_2 x5_1).r.name), .bool ((rd_T47 l0_2 x5_1).r.val.isSym), .string ((rd_T47 l0_2 x5_1).r.val.sym), .int .i64 ((rd_T47 l0_2 x5_1).r.val.n)] 47 (0, 0)) (by (with_reducible repeat (first | refine blk_drewN ?_ _ | refine blk_drew ?_ | refine blk_alloc ?_ _)); exact BK111.out) hg (Kd.R_ne HO_4.out BK111.out (by decide))); have n2_ := Aside0.mk (Kd.R_after (ok := (fun _ => True)) (by (with_reducible repeat (first | apply Kd.R_alloc | apply Kd.R_drewN | apply Kd.R_drew)); exact HO123.out) hg hat); have n3_ := Aside0.mk (hb); have n4_ := Aside0.mk (ho); clear BK101; clear BK111; clear HO123; clear HB; clear HO_4; have BK101 := n0_; have BK111 := n1_; have HO123 := n2_; have HB := n3_; have HO126 := n4_; clear n0_ n1_ n2_ n3_ n4_; clear ho hb hg hat))
          go_roundg k1
          case measure => have := HK1.out; omega
          case rel => exact ⟨(y124), (wrap64 (x5_1 + 1)), (by first | rfl | (simp; done) | (simp [*]; done)), H', ⟨by have := HK1.out; omega⟩, ⟨by (with_reducible repeat (first | apply Kd.R_alloc | apply Kd.R_drewN | apply Kd.R_drew)); exact Kd.R_mono HO126.out (fun _ hk => trivial)⟩, ⟨by (with_reducible repeat (first | refine blk_drewN ?_ _ | refine blk_drew ?_ | refine blk_alloc ?_ _)); exact BK101.out⟩, ⟨by repeat (first | (with_reducible first | exact HB.out | apply below_alloc | apply pw_below_drewN | apply below_drew1 | refine below_set ?_ GE101.out | refine below_set ?_ GE111.out) | exact HB.out)⟩⟩
         ·rw [if_neg c37] at H
          exact absurd H (by simp)
        ·rw [if_neg c36] at H
         have c36b0 : (((rd_T47 l0_2 x5_1).kind) == 3) = false := beq_eq_false_iff_ne.mpr c36
         have c36b1 : (((rd_T47 l0_2 x5_1).kind) != 3) = true := bne_iff_ne.mpr c36
         have H' := Aside0.mk H
         clear H
         have hcz46_0 : wr.cell? ⟨gb101, 0, none⟩ = some (.string a0_0) := (blk_cell BK101.out 0).trans rfl
         have hcz46_1 : wr.cell? ⟨gb101, 1, none⟩ = some (.slice A0_1 l0_1.length c0_1) := (blk_cell BK101.out 1).trans rfl
         have hcz46_2 : wr.cell? ⟨gb101, 2, none⟩ = some (.slice A0_2 l0_2.length c0_2) := (blk_cell BK101.out 2).trans rfl
         have hfz46_0 := blk_frozen BK101.out 0
         have hfz46_1 := blk_frozen BK101.out 1
         have hfz46_2 := blk_frozen BK101.out 2
         have p110 : 0 ≤ (x5_1 : Int) := of_decide_eq_true (by first | (with_reducible assumption) | assumption)
         have q110 : x5_1 < (l0_2.length : Int) := of_decide_eq_true (by first | (with_reducible assumption) | assumption)
         obtain ⟨ad110, A110_2, c110_2, e110, hx110_0, hx110_1, hx110_2, hx110_3, hx110_4, hx110_5, hx110_6, hx110_7, hx110_8, hx110_9, hx110_10, hx110_11, hx110_12, hx110_13, hl110_2, hi110_2⟩ := at_T47 HR0_2.out x5_1 p110 q110
         cases e110
         replace hx110_0 := (HB.out.cell (blt_ hx110_0)).trans hx110_0
         replace hx110_1 := (HB.out.cell (blt_ hx110_1)).trans hx110_1
         replace hx110_2 := (HB.out.cell (blt_ hx110_2)).trans hx110_2
         replace hx110_3 := (HB.out.cell (blt_ hx110_3)).trans hx110_3
         replace hx110_4 := (HB.out.cell (blt_ hx110_4)).trans hx110_4
         replace hx110_5 := (HB.out.cell (blt_ hx110_5)).trans hx110_5
         replace hx110_6 := (HB.out.cell (blt_ hx110_6)).trans hx110_6
         replace hx110_7 := (HB.out.cell (blt_ hx110_7)).trans hx110_7
         replace hx110_8 := (HB.out.cell (blt_ hx110_8)).trans hx110_8
         replace hx110_9 := (HB.out.cell (blt_ hx110_9)).trans hx110_9
         replace hx110_10 := (HB.out.cell (blt_ hx110_10)).trans hx110_10
         replace hx110_11 := (HB.out.cell (blt_ hx110_11)).trans hx110_11
         replace hx110_12 := (HB.out.cell (blt_ hx110_12)).trans hx110_12
         replace hx110_13 := (HB.out.cell (blt_ hx110_13)).trans hx110_13
         have HR110_2 := Aside0.mk hi110_2
         have HC110_2 := Aside0.mk hl110_2
         clear hi110_2 hl110_2
         replace p110 := eq_true p110
         replace q110 := eq_true q110
         go_wp2_with (first | ((with_reducible refine gate_dst (N := 6) rfl ?_); refine box_event ?hg (N := 6) ?hd (cs := #[.int .i64 0, .string (⟨#[]⟩ : ByteArray), .slice none 0 0, .string (⟨#[]⟩ : ByteArray), .bool false, .string (⟨#[]⟩ : ByteArray), .bool false, .string (⟨#[]⟩ : ByteArray), .int .i64 0, .bool false, .string (⟨#[]⟩ : ByteArray), .bool false, .string (⟨#[]⟩ : ByteArray), .int .i64 0]) (t := 47) ?hr ?_; (case hd => rfl); (case hg => rfl); (case hr => first | (go_simp; done) | (go_simp; rfl)); intro gb111 hg w47 hbox hb; have n0_ := Aside0.mk (Kd.R_below (by (with_reducible repeat (first | apply Kd.R_alloc | apply Kd.R_drewN | apply Kd.R_drew)); exact HO_4.out) hb); have n1_ := Aside0.mk (blk_below (g := gb101) (o := .cells #[.string a0_0, .slice A0_1 l0_1.length c0_1, .slice (some ad110) l0_2.length c0_2] 27 (0, 0)) (by (with_reducible repeat (first | refine blk_drewN ?_ _ | refine blk_drew ?_ | refine blk_alloc ?_ _)); exact BK101.out) hb); have n2_ := Aside0.mk (below_step (by repeat (first | (with_reducible first | exact HB.out | apply below_alloc | apply pw_below_drewN | apply below_drew1 | refine below_set ?_ GE101.out) | exact HB.out)) hb); have n3_ := Aside0.mk (hbox); have n4_ := Aside0.mk ((by rw [hg]; exact (below_size (by repeat (first | (with_reducible first | exact HB.out | apply below_alloc | apply pw_below_drewN | apply below_drew1 | refine below_set ?_ GE101.out) | exact HB.out))) : w.heap.size ≤ gb111)); have n5_ := Aside0.mk ((by rw [hg]; exact (below_size (by repeat (first | (with_reducible first | exact HB.out | apply below_alloc | apply pw_below_drewN | apply below_drew1 | refine below_set ?_ GE101.out) | exact HB.out))) : w.heap.size ≤ gb111)); have n6_ := Aside0.mk ((by rw [hg]; exact Nat.ne_of_lt (blk_lt (g := gb101) (o := .cells #[.string a0_0, .slice A0_1 l0_1.length c0_1, .slice (some ad110) l0_2.length c0_2] 27 (0, 0)) (by (with_reducible repeat (first | refine blk_drewN ?_ _ | refine blk_drew ?_ | refine blk_alloc ?_ _)); exact BK101.out)) : gb101 ≠ gb111)); have n7_ := Aside0.mk ((by rw [hg]; exact Nat.ne_of_gt (blk_lt (g := gb101) (o := .cells #[.string a0_0, .slice A0_1 l0_1.length c0_1, .slice (some ad110) l0_2.length c0_2] 27 (0, 0)) (by (with_reducible repeat (first | refine blk_drewN ?_ _ | refine blk_drew ?_ | refine blk_alloc ?_ _)); exact BK101.out)) : gb111 ≠ gb101)); clear HO_4; clear BK101; clear HB; have HO_4 := n0_; have BK101 := n1_; have HB := n2_; have BK111 := n3_; have GW111 := n4_; have GE111 := n5_; have NB101_111 := n6_; have NB111_101 := n7_; clear n0_ n1_ n2_ n3_ n4_ n5_ n6_ n7_; clear hb hbox hg; have hnb48 := NB111_101.out; have hnc48 := NB101_111.out; have hcz49_0 : w47.cell? ⟨gb111, 0, none⟩ = some (.int .i64 0) := (blk_cell BK111.out 0).trans rfl; have hcz49_1 : w47.cell? ⟨gb111, 1, none⟩ = some (.string (⟨#[]⟩ : ByteArray)) := (blk_cell BK111.out 1).trans rfl; have hcz49_2 : w47.cell? ⟨gb111, 2, none⟩ = some (.slice none 0 0) := (blk_cell BK111.out 2).trans rfl; have hcz49_3 : w47.cell? ⟨gb111, 3, none⟩ = some (.string (⟨#[]⟩ : ByteArray)) := (blk_cell BK111.out 3).trans rfl; have hcz49_4 : w47.cell? ⟨gb111, 4, none⟩ = some (.bool false) := (blk_cell BK111.out 4).trans rfl; have hcz49_5 : w47.cell? ⟨gb111, 5, none⟩ = some (.string (⟨#[]⟩ : ByteArray)) := (blk_cell BK111.out 5).trans rfl; have hcz49_6 : w47.cell? ⟨gb111, 6, none⟩ = some (.bool false) := (blk_cell BK111.out 6).trans rfl; have hcz49_7 : w47.cell? ⟨gb111, 7, none⟩ = some (.string (⟨#[]⟩ : ByteArray)) := (blk_cell BK111.out 7).trans rfl; have hcz49_8 : w47.cell? ⟨gb111, 8, none⟩ = some (.int .i64 0) := (blk_cell BK111.out 8).trans rfl; have hcz49_9 : w47.cell? ⟨gb111, 9, none⟩ = some (.bool false) := (blk_cell BK111.out 9).trans rfl; have hcz49_10 : w47.cell? ⟨gb111, 10, none⟩ = some (.string (⟨#[]⟩ : ByteArray)) := (blk_cell BK111.out 10).trans rfl; have hcz49_11 : w47.cell? ⟨gb111, 11, none⟩ = some (.bool false) := (blk_cell BK111.out 11).trans rfl; have hcz49_12 : w47.cell? ⟨gb111, 12, none⟩ = some (.string (⟨#[]⟩ : ByteArray)) := (blk_cell BK111.out 12).trans rfl; have hcz49_13 : w47.cell? ⟨gb111, 13, none⟩ = some (.int .i64 0) := (blk_cell BK111.out 13).trans rfl; have hfz49_0 := blk_frozen BK111.out 0; have hfz49_1 := blk_frozen BK111.out 1; have hfz49_2 := blk_frozen BK111.out 2; have hfz49_3 := blk_frozen BK111.out 3; have hfz49_4 := blk_frozen BK111.out 4; have hfz49_5 := blk_frozen BK111.out 5; have hfz49_6 := blk_frozen BK111.out 6; have hfz49_7 := blk_frozen BK111.out 7; have hfz49_8 := blk_frozen BK111.out 8; have hfz49_9 := blk_frozen BK111.out 9; have hfz49_10 := blk_frozen BK111.out 10; have hfz49_11 := blk_frozen BK111.out 11; have hfz49_12 := blk_frozen BK111.out 12; have hfz49_13 := blk_frozen BK111.out 13))
         go_roundg k1
         case measure => have := HK1.out; omega
         case rel => exact ⟨(x4_1), (wrap64 (x5_1 + 1)), (by first | rfl | (simp; done) | (simp [*]; done)), H', ⟨by have := HK1.out; omega⟩, ⟨by (with_reducible repeat (first | apply Kd.R_alloc | apply Kd.R_drewN | apply Kd.R_drew)); exact Kd.R_mono (Kd.R_far (p := ⟨gb111, 13, none⟩) (Kd.R_far (p := ⟨gb111, 12, none⟩) (Kd.R_far (p := ⟨gb111, 11, none⟩) (Kd.R_far (p := ⟨gb111, 10, none⟩) (Kd.R_far (p := ⟨gb111, 9, none⟩) (Kd.R_far (p := ⟨gb111, 8, none⟩) (Kd.R_far (p := ⟨gb111, 7, none⟩) (Kd.R_far (p := ⟨gb111, 6, none⟩) (Kd.R_far (p := ⟨gb111, 5, none⟩) (Kd.R_far (p := ⟨gb111, 4, none⟩) (Kd.R_far (p := ⟨gb111, 3, none⟩) (Kd.R_far (p := ⟨gb111, 2, none⟩) (Kd.R_far (p := ⟨gb111, 1, none⟩) (Kd.R_far (p := ⟨gb111, 0, none⟩) (Kd.R_types HO_4.out BK111.out (by decide)) (fun _ hk => hk.2) _) (fun _ hk => hk.2) _) (fun _ hk => hk.2) _) (fun _ hk => hk.2) _) (fun _ hk => hk.2) _) (fun _ hk => hk.2) _) (fun _ hk => hk.2) _) (fun _ hk => hk.2) _) (fun _ hk => hk.2) _) (fun _ hk => hk.2) _) (fun _ hk => hk.2) _) (fun _ hk => hk.2) _) (fun _ hk => hk.2) _) (fun _ hk => hk.2) _) (fun _ hk => trivial)⟩, ⟨by repeat (first | (with_reducible first | exact BK101.out | refine blk_drewN ?_ _ | refine blk_drew ?_ | refine blk_alloc ?_ _) | refine blk_far ?_ NB101_111.out _ | exact BK101.out)⟩, ⟨by repeat (first | (with_reducible first | exact HB.out | apply below_alloc | apply pw_below_drewN | apply below_drew1 | refine below_set ?_ GE101.out | refine below_set ?_ GE111.out) | exact HB.out)⟩⟩
      ·rw [if_neg c15] at H
       exact absurd H (by simp)
     ·rw [if_neg c14] at H
      have c14b0 : decide (x5_1 < (l0_2.length : Int)) = false := decide_eq_false c14
      clear c14
      have H' := Aside0.mk H
      clear H
      have hcz50_0 : wr.cell? ⟨gb101, 0, none⟩ = some (.string a0_0) := (blk_cell BK101.out 0).trans rfl
      have hcz50_1 : wr.cell? ⟨gb101, 1, none⟩ = some (.slice A0_1 l0_1.length c0_1) := (blk_cell BK101.out 1).trans rfl
      have hcz50_2 : wr.cell? ⟨gb101, 2, none⟩ = some (.slice A0_2 l0_2.length c0_2) := (blk_cell BK101.out 2).trans rfl
      have hfz50_0 := blk_frozen BK101.out 0
      have hfz50_1 := blk_frozen BK101.out 1
      have hfz50_2 := blk_frozen BK101.out 2
      go_wp2
      go_loopg [7, 8] k1 (fun kq v7 v8 w' => ∃ (x7_2 : Bool) (x8_2 : Int), v7 = .bool x7_2 ∧ v8 = .int .i64 x8_2 ∧ Aside0 (lambrequinlaw09_SafeJust.l1 kq t102 x4_1 x7_2 x8_2 a0_0 l0_1 l0_2 = some r) ∧ Aside0 (kq ≤ k1) ∧ Aside0 (Kd.R k45 45 w' w.heap.size (fun _ => True) u4 x4_1) ∧ Aside0 (w'.heap[gb101]? = some (.cells #[.string a0_0, (.slice A0_1 l0_1.length c0_1), (.slice A0_2 l0_2.length c0_2)] 27 (0, 0))) ∧ Aside0 (Below w.heap.size w w'))
      case atStart => exact ⟨(true), (0), (by first | rfl | (simp; done) | (simp [*]; done)), (by first | rfl | (simp; done) | (simp [*]; done)), H', ⟨Nat.le_refl _⟩, ⟨by (with_reducible repeat (first | apply Kd.R_alloc | apply Kd.R_drewN | apply Kd.R_drew)); exact HO_4.out⟩, ⟨by (with_reducible repeat (first | refine blk_drewN ?_ _ | refine blk_drew ?_ | refine blk_alloc ?_ _)); exact BK101.out⟩, ⟨by repeat (first | (with_reducible first | exact HB.out | apply below_alloc | apply pw_below_drewN | apply below_drew1 | refine below_set ?_ GE101.out) | exact HB.out)⟩⟩
      case round =>
       clear H'
       try clear c1
       try clear p1
       try clear q1
       try clear hx1
       try clear c2
       try clear p2
       try clear c3
       try clear c4
       try clear c5
       try clear p6
       try clear c8
       try clear c11
       try clear p11
       try clear q11
       try clear hx11
       try clear c14
       try clear c14b0
       try clear c15
       try clear c15b0
       try clear c16
       try clear c16b0
       try clear c16b1
       try clear c17
       try clear c18
       try clear c18b0
       try clear c18b1
       try clear c19
       try clear c22
       try clear c25
       try clear c26
       try clear c32
       try clear c36
       try clear c36b0
       try clear c36b1
       try clear c37
       try clear c40
       try clear c48
       try clear hcz12_0
       try clear hcz12_1
       try clear hcz12_2
       try clear hcz20_0
       try clear hcz20_1
       try clear hcz20_2
       try clear hcz23_0
       try clear hcz23_1
       try clear hcz23_10
       try clear hcz23_11
       try clear hcz23_12
       try clear hcz23_13
       try clear hcz23_2
       try clear hcz23_3
       try clear hcz23_4
       try clear hcz23_5
       try clear hcz23_6
       try clear hcz23_7
       try clear hcz23_8
       try clear hcz23_9
       try clear hcz25_0
       try clear hcz25_1
       try clear hcz25_10
       try clear hcz25_11
       try clear hcz25_12
       try clear hcz25_13
       try clear hcz25_2
       try clear hcz25_3
       try clear hcz25_4
       try clear hcz25_5
       try clear hcz25_6
       try clear hcz25_7
       try clear hcz25_8
       try clear hcz25_9
       try clear hcz30_0
       try clear hcz30_1
       try clear hcz30_2
       try clear hcz33_0
       try clear hcz33_1
       try clear hcz33_10
       try clear hcz33_11
       try clear hcz33_12
       try clear hcz33_13
       try clear hcz33_2
       try clear hcz33_3
       try clear hcz33_4
       try clear hcz33_5
       try clear hcz33_6
       try clear hcz33_7
       try clear hcz33_8
       try clear hcz33_9
       try clear hcz35_0
       try clear hcz35_1
       try clear hcz35_10
       try clear hcz35_11
       try clear hcz35_12
       try clear hcz35_13
       try clear hcz35_2
       try clear hcz35_3
       try clear hcz35_4
       try clear hcz35_5
       try clear hcz35_6
       try clear hcz35_7
       try clear hcz35_8
       try clear hcz35_9
       try clear hcz38_0
       try clear hcz38_1
       try clear hcz38_2
       try clear hcz41_0
       try clear hcz41_1
       try clear hcz41_10
       try clear hcz41_11
       try clear hcz41_12
       try clear hcz41_13
       try clear hcz41_2
       try clear hcz41_3
       try clear hcz41_4
       try clear hcz41_5
       try clear hcz41_6
       try clear hcz41_7
       try clear hcz41_8
       try clear hcz41_9
       try clear hcz46_0
       try clear hcz46_1
       try clear hcz46_2
       try clear hcz49_0
       try clear hcz49_1
       try clear hcz49_10
       try clear hcz49_11
       try clear hcz49_12
       try clear hcz49_13
       try clear hcz49_2
       try clear hcz49_3
       try clear hcz49_4
       try clear hcz49_5
       try clear hcz49_6
       try clear hcz49_7
       try clear hcz49_8
       try clear hcz49_9
       try clear hcz50_0
       try clear hcz50_1
       try clear hcz50_2
       try clear hcz8_0
       try clear hcz8_1
       try clear hcz8_2
       try clear hfz12_0
       try clear hfz12_1
       try clear hfz12_2
       try clear hfz20_0
       try clear hfz20_1
       try clear hfz20_2
       try clear hfz23_0
       try clear hfz23_1
       try clear hfz23_10
       try clear hfz23_11
       try clear hfz23_12
       try clear hfz23_13
       try clear hfz23_2
       try clear hfz23_3
       try clear hfz23_4
       try clear hfz23_5
       try clear hfz23_6
       try clear hfz23_7
       try clear hfz23_8
       try clear hfz23_9
       try clear hfz25_0
       try clear hfz25_1
       try clear hfz25_10
       try clear hfz25_11
       try clear hfz25_12
       try clear hfz25_13
       try clear hfz25_2
       try clear hfz25_3
       try clear hfz25_4
       try clear hfz25_5
       try clear hfz25_6
       try clear hfz25_7
       try clear hfz25_8
       try clear hfz25_9
       try clear hfz30_0
       try clear hfz30_1
       try clear hfz30_2
       try clear hfz33_0
       try clear hfz33_1
       try clear hfz33_10
       try clear hfz33_11
       try clear hfz33_12
       try clear hfz33_13
       try clear hfz33_2
       try clear hfz33_3
       try clear hfz33_4
       try clear hfz33_5
       try clear hfz33_6
       try clear hfz33_7
       try clear hfz33_8
       try clear hfz33_9
       try clear hfz35_0
       try clear hfz35_1
       try clear hfz35_10
       try clear hfz35_11
       try clear hfz35_12
       try clear hfz35_13
       try clear hfz35_2
       try clear hfz35_3
       try clear hfz35_4
       try clear hfz35_5
       try clear hfz35_6
       try clear hfz35_7
       try clear hfz35_8
       try clear hfz35_9
       try clear hfz38_0
       try clear hfz38_1
       try clear hfz38_2
       try clear hfz41_0
       try clear hfz41_1
       try clear hfz41_10
       try clear hfz41_11
       try clear hfz41_12
       try clear hfz41_13
       try clear hfz41_2
       try clear hfz41_3
       try clear hfz41_4
       try clear hfz41_5
       try clear hfz41_6
       try clear hfz41_7
       try clear hfz41_8
       try clear hfz41_9
       try clear hfz46_0
       try clear hfz46_1
       try clear hfz46_2
       try clear hfz49_0
       try clear hfz49_1
       try clear hfz49_10
       try clear hfz49_11
       try clear hfz49_12
       try clear hfz49_13
       try clear hfz49_2
       try clear hfz49_3
       try clear hfz49_4
       try clear hfz49_5
       try clear hfz49_6
       try clear hfz49_7
       try clear hfz49_8
       try clear hfz49_9
       try clear hfz50_0
       try clear hfz50_1
       try clear hfz50_2
       try clear hfz8_0
       try clear hfz8_1
       try clear hfz8_2
       try clear hx110_0
       try clear hx110_1
       try clear hx110_10
       try clear hx110_11
       try clear hx110_12
       try clear hx110_13
       try clear hx110_2
       try clear hx110_3
       try clear hx110_4
       try clear hx110_5
       try clear hx110_6
       try clear hx110_7
       try clear hx110_8
       try clear hx110_9
       try clear p110
       try clear p2
       try clear q110
       obtain ⟨x7_2, x8_2, rfl, rfl, HA, HK2, HO_4, BK101, HB⟩ := hrel
       cases gk with
       | zero => exact absurd HA.out (by simp [lambrequinlaw09_SafeJust.l1])
       | succ k2 =>
        have H := HA.out
        clear HA
        simp only [lambrequinlaw09_SafeJust.l1] at H
        by_cases c51 : x8_2 < (x4_1.length : Int)
        ·rw [if_pos c51] at H
         have c51b0 : decide (x8_2 < (x4_1.length : Int)) = true := decide_eq_true c51
         clear c51
         by_cases c52 : x7_2 = true
         ·subst c52
          have H1 : (if 0 ≤ x8_2 then (if ((rd_T45 x4_1 x8_2).isVar = true) then ((lambrequinref09_Binds.f k2 a0_0 l0_1 l0_2 ((rd_T45 x4_1 x8_2).name)).bind fun t129 => (lambrequinlaw09_SafeJust.l1 k2 t102 x4_1 t129 (wrap64 (x8_2 + 1)) a0_0 l0_1 l0_2)) else (lambrequinlaw09_SafeJust.l1 k2 t102 x4_1 true (wrap64 (x8_2 + 1)) a0_0 l0_1 l0_2)) else (none)) = some r := by rw [if_pos rfl] at H; exact H
          clear H
          have H := H1
          clear H1
          by_cases c53 : 0 ≤ x8_2
          ·rw [if_pos c53] at H
           have c53b0 : decide (0 ≤ x8_2) = true := decide_eq_true c53
           clear c53
           obtain ⟨bq54, hbq54⟩ : ∃ b_ : Bool, b_ = ((rd_T45 x4_1 x8_2).isVar) := ⟨_, rfl⟩
           replace H : (if (bq54 = true) then ((lambrequinref09_Binds.f k2 a0_0 l0_1 l0_2 ((rd_T45 x4_1 x8_2).name)).bind fun t129 => (lambrequinlaw09_SafeJust.l1 k2 t102 x4_1 t129 (wrap64 (x8_2 + 1)) a0_0 l0_1 l0_2)) else (lambrequinlaw09_SafeJust.l1 k2 t102 x4_1 true (wrap64 (x8_2 + 1)) a0_0 l0_1 l0_2)) = some r := by rw [← hbq54] at H; exact H
           have Nbq54 := Aside0.mk hbq54
           clear hbq54
           by_cases c55 : (bq54 = true)
           ·subst c55
            have H1 : ((lambrequinref09_Binds.f k2 a0_0 l0_1 l0_2 ((rd_T45 x4_1 x8_2).name)).bind fun t129 => (lambrequinlaw09_SafeJust.l1 k2 t102 x4_1 t129 (wrap64 (x8_2 + 1)) a0_0 l0_1 l0_2)) = some r := by rw [if_pos rfl] at H; exact H
            clear H
            have H := H1
            clear H1
            replace H := Option.bind_eq_some_iff.mp H
            obtain ⟨t129, A560, H⟩ := H
            replace H : (lambrequinlaw09_SafeJust.l1 k2 t102 x4_1 t129 (wrap64 (x8_2 + 1)) a0_0 l0_1 l0_2) = some r := H
            have A56 := Aside0.mk A560
            clear A560
            have H' := Aside0.mk H
            clear H
            obtain ⟨Ao57, co57, eo57⟩ := Kd.R_slice HO_4.out
            subst eo57
            try go_wp2
            have n0_ := Aside0.mk (Kd.R_drew HO_4.out)
            have n1_ := Aside0.mk (blk_drew BK101.out)
            have n2_ := Aside0.mk (below_drew1 HB.out)
            clear HO_4
            clear BK101
            clear HB
            have HO_4 := n0_
            have BK101 := n1_
            have HB := n2_
            clear n0_ n1_ n2_
            have p127 : 0 ≤ (x8_2 : Int) := of_decide_eq_true (by first | (with_reducible assumption) | assumption)
            have q127 : x8_2 < (x4_1.length : Int) := of_decide_eq_true (by first | (with_reducible assumption) | assumption)
            obtain ⟨ad127, e127, hx127_0, hx127_1, hx127_2, hx127_3, hx127_4⟩ := at_T45 (Kd.R_reads' HO_4.out).2.2 x8_2 p127 q127
            (try rw [← Nbq54.out] at hx127_0)
            (try rw [← Nbq54.out] at hx127_2)
            cases e127
            replace p127 := eq_true p127
            replace q127 := eq_true q127
            have p128 : 0 ≤ (x8_2 : Int) := of_decide_eq_true (by first | (with_reducible assumption) | assumption)
            have q128 : x8_2 < (x4_1.length : Int) := of_decide_eq_true (by first | (with_reducible assumption) | assumption)
            obtain ⟨ad128, e128, hx128_0, hx128_1, hx128_2, hx128_3, hx128_4⟩ := at_T45 (Kd.R_reads' HO_4.out).2.2 x8_2 p128 q128
            (try rw [← Nbq54.out] at hx128_0)
            (try rw [← Nbq54.out] at hx128_2)
            obtain rfl : ad127 = ad128 := (by injection e128)
            replace p128 := eq_true p128
            replace q128 := eq_true q128
            refine start_ (n := 19) (S := fun w' => w'.cell? ⟨gb101, 0, none⟩ = some (.string a0_0) ∧ w'.cell? ⟨gb101, 1, none⟩ = some (.slice A0_1 l0_1.length c0_1) ∧ w'.cell? ⟨gb101, 2, none⟩ = some (.slice A0_2 l0_2.length c0_2) ∧ w'.cell? (ad127.add ((x8_2).toNat * 5)) = some (.bool true) ∧ w'.cell? ⟨(ad127.add ((x8_2).toNat * 5)).block, (ad127.add ((x8_2).toNat * 5)).off + 1, none⟩ = some (.string ((rd_T45 x4_1 x8_2).name)) ∧ w'.cell? ⟨(ad127.add ((x8_2).toNat * 5)).block, (ad127.add ((x8_2).toNat * 5)).off + 2, none⟩ = some (.bool ((rd_T45 x4_1 x8_2).val.isSym)) ∧ w'.cell? ⟨(ad127.add ((x8_2).toNat * 5)).block, (ad127.add ((x8_2).toNat * 5)).off + 3, none⟩ = some (.string ((rd_T45 x4_1 x8_2).val.sym)) ∧ w'.cell? ⟨(ad127.add ((x8_2).toNat * 5)).block, (ad127.add ((x8_2).toNat * 5)).off + 4, none⟩ = some (.int .i64 ((rd_T45 x4_1 x8_2).val.n)) ∧ w'.cell? (ad127.add ((x8_2).toNat * 5)) = some (.bool (true)) ∧ w'.cell? ⟨(ad127.add ((x8_2).toNat * 5)).block, (ad127.add ((x8_2).toNat * 5)).off + 1, none⟩ = some (.string ((rd_T45 x4_1 x8_2).name)) ∧ w'.cell? ⟨(ad127.add ((x8_2).toNat * 5)).block, (ad127.add ((x8_2).toNat * 5)).off + 2, none⟩ = some (.bool ((rd_T45 x4_1 x8_2).val.isSym)) ∧ w'.cell? ⟨(ad127.add ((x8_2).toNat * 5)).block, (ad127.add ((x8_2).toNat * 5)).off + 3, none⟩ = some (.string ((rd_T45 x4_1 x8_2).val.sym)) ∧ w'.cell? ⟨(ad127.add ((x8_2).toNat * 5)).block, (ad127.add ((x8_2).toNat * 5)).off + 4, none⟩ = some (.int .i64 ((rd_T45 x4_1 x8_2).val.n))) (ds := []) #[false, false, false, false, false, false, false, false, false, false, false, false, false, false, false, false, false, false, false] (by kernel_rfl) rfl rfl ⟨(blk_cell BK101.out 0).trans rfl, (blk_cell BK101.out 1).trans rfl, (blk_cell BK101.out 2).trans rfl, hx127_0, hx127_1, hx127_2, hx127_3, hx127_4, hx128_0, hx128_1, hx128_2, hx128_3, hx128_4⟩ (fun hHeld => ?_); refine with_tabW lambrequinlaw09_SafeJust.tab17 lambrequinlaw09_SafeJust.bits17 (fun HT_ HW_ => ?_)
            generalize wr.drew = w58 at HO_4 BK101 HB hx127_0 hx127_1 hx127_2 hx127_3 hx127_4 hx128_0 hx128_1 hx128_2 hx128_3 hx128_4 hHeld ⊢
            refine pure_ (i := 0) (N := some 58) (v := ?_) (a' := ?_) #[true, false, false, false, false, false, false, false, false, false, false, false, false, false, false, false, false, false, false] rfl rfl (any_of HT_.out (by kernel_rfl)) (fun _ _ _ h => h) (Or.inl ⟨by rfl, ?_⟩) ?_ ?_
            rotate_left
            ·intro w'
             go_simp
             with_reducible rfl
            rotate_left
            ·simp only [Act.put, List.setIfInBounds_toArray, List.set_cons_zero, List.set_cons_succ, i64_w, i32_w]
             rfl
            refine pure_ (i := 1) (N := some 59) (v := ?_) (a' := ?_) #[true, true, false, false, false, false, false, false, false, false, false, false, false, false, false, false, false, false, false] rfl rfl (any_of HT_.out (by kernel_rfl)) (fun _ _ _ h => h) (Or.inl ⟨by rfl, ?_⟩) ?_ ?_
            rotate_left
            ·intro w'
             go_simp
             with_reducible rfl
            rotate_left
            ·simp only [Act.put, List.setIfInBounds_toArray, List.set_cons_zero, List.set_cons_succ, i64_w, i32_w]
             rfl
            refine pure_ (i := 2) (N := some 60) (v := ?_) (a' := ?_) #[true, true, true, false, false, false, false, false, false, false, false, false, false, false, false, false, false, false, false] rfl rfl (any_of HT_.out (by kernel_rfl)) (fun _ _ _ h => h) (Or.inl ⟨by rfl, ?_⟩) ?_ ?_
            rotate_left
            ·intro w'
             go_simp
             with_reducible rfl
            rotate_left
            ·simp only [Act.put, List.setIfInBounds_toArray, List.set_cons_zero, List.set_cons_succ, i64_w, i32_w]
             rfl
            refine pure_ (i := 3) (N := some 61) (v := ?_) (a' := ?_) #[true, true, true, true, false, false, false, false, false, false, false, false, false, false, false, false, false, false, false] rfl rfl (any_of HT_.out (by kernel_rfl)) (fun _ _ _ h => h) (Or.inl ⟨by rfl, ?_⟩) ?_ ?_
            rotate_left
            ·intro w'
             go_simp
             with_reducible rfl
            rotate_left
            ·simp only [Act.put, List.setIfInBounds_toArray, List.set_cons_zero, List.set_cons_succ, i64_w, i32_w]
             rfl
            refine pure_ (i := 4) (N := some 62) (v := ?_) (a' := ?_) #[true, true, true, true, true, false, false, false, false, false, false, false, false, false, false, false, false, false, false] rfl rfl (any_of HT_.out (by kernel_rfl)) (fun _ _ _ h => h) (Or.inl ⟨by rfl, ?_⟩) ?_ ?_
            rotate_left
            ·intro w'
             go_simp
             with_reducible rfl
            rotate_left
            ·simp only [Act.put, List.setIfInBounds_toArray, List.set_cons_zero, List.set_cons_succ, i64_w, i32_w]
             rfl
            refine pure_ (i := 5) (N := some 63) (v := ?_) (a' := ?_) #[true, true, true, true, true, true, false, false, false, false, false, false, false, false, false, false, false, false, false] rfl rfl (any_of HT_.out (by kernel_rfl)) (fun _ _ _ h => h) (Or.inl ⟨by rfl, ?_⟩) ?_ ?_
            rotate_left
            ·intro w'
             go_simp
             with_reducible rfl
            rotate_left
            ·simp only [Act.put, List.setIfInBounds_toArray, List.set_cons_zero, List.set_cons_succ, i64_w, i32_w]
             rfl
            refine take_ (i := 6) (N := some 64) (v := ?_) (a' := ?_) #[true, true, true, true, true, true, true, false, false, false, false, false, false, false, false, false, false, false, false] rfl rfl (take_ofW HT_.out HW_.out (by kernel_rfl)) (fun _ _ _ h => h) (Or.inl ⟨by rfl, ?_⟩) hHeld ?_ ?_
            rotate_left
            ·rintro w' ⟨s0, s1, s2, s3, s4, s5, s6, s7, s8, s9, s10, s11, s12⟩
             go_simp
             with_reducible rfl
            rotate_left
            ·simp only [Act.put, List.setIfInBounds_toArray, List.set_cons_zero, List.set_cons_succ, i64_w, i32_w]
             rfl
            refine pure_ (i := 7) (N := some 65) (v := ?_) (a' := ?_) #[true, true, true, true, true, true, true, true, false, false, false, false, false, false, false, false, false, false, false] rfl rfl (any_of HT_.out (by kernel_rfl)) (fun _ _ _ h => h) (Or.inl ⟨by rfl, ?_⟩) ?_ ?_
            rotate_left
            ·intro w'
             go_simp
             with_reducible rfl
            rotate_left
            ·simp only [Act.put, List.setIfInBounds_toArray, List.set_cons_zero, List.set_cons_succ, i64_w, i32_w]
             rfl
            refine pure_ (i := 8) (N := some 66) (v := ?_) (a' := ?_) #[true, true, true, true, true, true, true, true, true, false, false, false, false, false, false, false, false, false, false] rfl rfl (any_of HT_.out (by kernel_rfl)) (fun _ _ _ h => h) (Or.inl ⟨by rfl, ?_⟩) ?_ ?_
            rotate_left
            ·intro w'
             go_simp
             with_reducible rfl
            rotate_left
            ·simp only [Act.put, List.setIfInBounds_toArray, List.set_cons_zero, List.set_cons_succ, i64_w, i32_w]
             rfl
            refine pure_ (i := 10) (N := some 68) (v := ?_) (a' := ?_) #[true, true, true, true, true, true, true, true, true, false, true, false, false, false, false, false, false, false, false] rfl rfl (any_of HT_.out (by kernel_rfl)) (fun _ _ _ h => h) (Or.inl ⟨by rfl, ?_⟩) ?_ ?_
            rotate_left
            ·intro w'
             go_simp
             with_reducible rfl
            rotate_left
            ·simp only [Act.put, List.setIfInBounds_toArray, List.set_cons_zero, List.set_cons_succ, i64_w, i32_w]
             rfl
            refine pure_ (i := 11) (N := some 69) (v := ?_) (a' := ?_) #[true, true, true, true, true, true, true, true, true, false, true, true, false, false, false, false, false, false, false] rfl rfl (any_of HT_.out (by kernel_rfl)) (fun _ _ _ h => h) (Or.inl ⟨by rfl, ?_⟩) ?_ ?_
            rotate_left
            ·intro w'
             go_simp
             with_reducible rfl
            rotate_left
            ·simp only [Act.put, List.setIfInBounds_toArray, List.set_cons_zero, List.set_cons_succ, i64_w, i32_w]
             rfl
            refine pure_ (i := 12) (N := some 70) (v := ?_) (a' := ?_) #[true, true, true, true, true, true, true, true, true, false, true, true, true, false, false, false, false, false, false] rfl rfl (any_of HT_.out (by kernel_rfl)) (fun _ _ _ h => h) (Or.inl ⟨by rfl, ?_⟩) ?_ ?_
            rotate_left
            ·intro w'
             go_simp
             with_reducible rfl
            rotate_left
            ·simp only [Act.put, List.setIfInBounds_toArray, List.set_cons_zero, List.set_cons_succ, i64_w, i32_w]
             rfl
            refine pure_ (i := 13) (N := some 71) (v := ?_) (a' := ?_) #[true, true, true, true, true, true, true, true, true, false, true, true, true, true, false, false, false, false, false] rfl rfl (any_of HT_.out (by kernel_rfl)) (fun _ _ _ h => h) (Or.inl ⟨by rfl, ?_⟩) ?_ ?_
            rotate_left
            ·intro w'
             go_simp
             with_reducible rfl
            rotate_left
            ·simp only [Act.put, List.setIfInBounds_toArray, List.set_cons_zero, List.set_cons_succ, i64_w, i32_w]
             rfl
            refine take_ (i := 9) (N := some 67) (v := ?_) (a' := ?_) #[true, true, true, true, true, true, true, true, true, true, true, true, true, true, false, false, false, false, false] rfl rfl (take_ofW HT_.out HW_.out (by kernel_rfl)) (fun _ _ _ h => h) (Or.inl ⟨by rfl, ?_⟩) hHeld ?_ ?_
            rotate_left
            ·rintro w' ⟨s0, s1, s2, s3, s4, s5, s6, s7, s8, s9, s10, s11, s12⟩
             go_simp
             with_reducible rfl
            rotate_left
            ·simp only [Act.put, List.setIfInBounds_toArray, List.set_cons_zero, List.set_cons_succ, i64_w, i32_w]
             rfl
            refine take_ (i := 14) (N := some 72) (v := ?_) (a' := ?_) #[true, true, true, true, true, true, true, true, true, true, true, true, true, true, true, false, false, false, false] rfl rfl (take_ofW HT_.out HW_.out (by kernel_rfl)) (fun _ _ _ h => h) (Or.inl ⟨by rfl, ?_⟩) hHeld ?_ ?_
            rotate_left
            ·rintro w' ⟨s0, s1, s2, s3, s4, s5, s6, s7, s8, s9, s10, s11, s12⟩
             go_simp
             with_reducible rfl
            rotate_left
            ·simp only [Act.put, List.setIfInBounds_toArray, List.set_cons_zero, List.set_cons_succ, i64_w, i32_w]
             rfl
            refine one_ (i := 15) (N := some 73) #[true, true, true, true, true, true, true, true, true, true, true, true, true, true, true, true, false, false, false] rfl rfl (one_of HT_.out (by kernel_rfl)) (by decide) (fun K hK => ?_)
            refine goes_ Try.func27 (by kernel_rfl) rfl #[.agg #[.string a0_0, .slice A0_1 l0_1.length c0_1, .slice A0_2 l0_2.length c0_2], .string ((rd_T45 x4_1 x8_2).name)] (by rfl) rfl rfl (by (try simp only [List.map_toArray, List.map_cons, List.map_nil]); first | done | rfl | (simp only [List.length_drop, List.length_take]; rfl)) ?_
            with_reducible refine (lambrequinref09_Binds.calls k2 a0_0 _ _ l0_1 _ _ l0_2 ((rd_T45 x4_1 x8_2).name) t129 _ ?side1 ?side2 ?side3 ?side4 A56.out).mono ?_
            (case side1 => repeat (first | exact (Kd.C_below HR0_1.out HB.out) | (with_reducible refine Kd.C_alloc ?_ _) | (with_reducible refine Kd.C_drewN ?_ _) | (with_reducible refine Kd.C_drew ?_)))
            (case side2 => exact HC0_1.out)
            (case side3 => repeat (first | exact (Kd.C_below HR0_2.out HB.out) | (with_reducible refine Kd.C_alloc ?_ _) | (with_reducible refine Kd.C_drewN ?_ _) | (with_reducible refine Kd.C_drew ?_)))
            (case side4 => exact HC0_2.out)
            rintro e w59 ⟨rfl, hb⟩
            have HS3_ := (hb.cell (blt_ (hHeld.2.2.2.1))).trans (hHeld.2.2.2.1)
            have HS4_ := (hb.cell (blt_ (hHeld.2.2.2.2.1))).trans (hHeld.2.2.2.2.1)
            have HS5_ := (hb.cell (blt_ (hHeld.2.2.2.2.2.1))).trans (hHeld.2.2.2.2.2.1)
            have HS6_ := (hb.cell (blt_ (hHeld.2.2.2.2.2.2.1))).trans (hHeld.2.2.2.2.2.2.1)
            have HS7_ := (hb.cell (blt_ (hHeld.2.2.2.2.2.2.2.1))).trans (hHeld.2.2.2.2.2.2.2.1)
            have HS8_ := (hb.cell (blt_ (hHeld.2.2.2.2.2.2.2.2.1))).trans (hHeld.2.2.2.2.2.2.2.2.1)
            have HS9_ := (hb.cell (blt_ (hHeld.2.2.2.2.2.2.2.2.2.1))).trans (hHeld.2.2.2.2.2.2.2.2.2.1)
            have HS10_ := (hb.cell (blt_ (hHeld.2.2.2.2.2.2.2.2.2.2.1))).trans (hHeld.2.2.2.2.2.2.2.2.2.2.1)
            have HS11_ := (hb.cell (blt_ (hHeld.2.2.2.2.2.2.2.2.2.2.2.1))).trans (hHeld.2.2.2.2.2.2.2.2.2.2.2.1)
            have HS12_ := (hb.cell (blt_ (hHeld.2.2.2.2.2.2.2.2.2.2.2.2))).trans (hHeld.2.2.2.2.2.2.2.2.2.2.2.2)
            refine ⟨_, rfl, ?_⟩
            have n0_ := Aside0.mk (Kd.R_below (by (with_reducible repeat (first | apply Kd.R_alloc | apply Kd.R_drewN | apply Kd.R_drew)); exact HO_4.out) hb)
            have n1_ := Aside0.mk (blk_below (g := gb101) (o := .cells #[.string a0_0, .slice A0_1 l0_1.length c0_1, .slice A0_2 l0_2.length c0_2] 27 (0, 0)) (by (with_reducible repeat (first | refine blk_drewN ?_ _ | refine blk_drew ?_ | refine blk_alloc ?_ _)); exact BK101.out) hb)
            have n2_ := Aside0.mk (below_step (by repeat (first | (with_reducible first | exact HB.out | apply below_alloc | apply pw_below_drewN | apply below_drew1 | refine below_set ?_ GE101.out) | exact HB.out)) hb)
            clear HO_4
            clear BK101
            clear HB
            have HO_4 := n0_
            have BK101 := n1_
            have HB := n2_
            clear n0_ n1_ n2_
            (try clear hb)
            (try clear hb2)
            (try clear hk)
            (try clear hi)
            refine hK.out _ _ ⟨(blk_cell BK101.out 0).trans rfl, (blk_cell BK101.out 1).trans rfl, (blk_cell BK101.out 2).trans rfl, HS3_, HS4_, HS5_, HS6_, HS7_, HS8_, HS9_, HS10_, HS11_, HS12_⟩ (fun hHeld => ?_)
            clear hK K
            refine norm_ (a' := ?_) ?_ ?_
            rotate_left
            ·show Act.put _ (some 73) _ = _
             simp only [Act.put, List.setIfInBounds_toArray, List.set_cons_zero, List.set_cons_succ, i64_w, i32_w]
             rfl
            refine pure_ (i := 16) (N := some 74) (v := ?_) (a' := ?_) #[true, true, true, true, true, true, true, true, true, true, true, true, true, true, true, true, true, false, false] rfl rfl (any_of HT_.out (by kernel_rfl)) (fun _ _ _ h => h) (Or.inl ⟨by rfl, ?_⟩) ?_ ?_
            rotate_left
            ·intro w'
             go_simp
             with_reducible rfl
            rotate_left
            ·simp only [Act.put, List.setIfInBounds_toArray, List.set_cons_zero, List.set_cons_succ, i64_w, i32_w]
             rfl
            refine pure_ (i := 17) (N := some 75) (v := ?_) (a' := ?_) #[true, true, true, true, true, true, true, true, true, true, true, true, true, true, true, true, true, true, false] rfl rfl (any_of HT_.out (by kernel_rfl)) (fun _ _ _ h => h) (Or.inl ⟨by rfl, ?_⟩) ?_ ?_
            rotate_left
            ·intro w'
             go_simp
             with_reducible rfl
            rotate_left
            ·simp only [Act.put, List.setIfInBounds_toArray, List.set_cons_zero, List.set_cons_succ, i64_w, i32_w]
             rfl
            refine pure_ (i := 18) (N := some 7) (v := ?_) (a' := ?_) #[true, true, true, true, true, true, true, true, true, true, true, true, true, true, true, true, true, true, true] rfl rfl (any_of HT_.out (by kernel_rfl)) (fun _ _ _ h => h) (Or.inl ⟨by rfl, ?_⟩) ?_ ?_
            rotate_left
            ·intro w'
             go_simp
             with_reducible rfl
            rotate_left
            ·simp only [Act.put, List.setIfInBounds_toArray, List.set_cons_zero, List.set_cons_succ, i64_w, i32_w]
             rfl
            refine done_ (done_of HT_.out (by kernel_rfl)) ?_
            try go_wp2
            go_roundg k2
            case measure => have := HK1.out; have := HK2.out; omega
            case rel => exact ⟨(t129), (wrap64 (x8_2 + 1)), (by first | rfl | (simp; done) | (simp [*]; done)), (by first | rfl | (simp; done) | (simp [*]; done)), H', ⟨by have := HK1.out; have := HK2.out; omega⟩, ⟨by (with_reducible repeat (first | apply Kd.R_alloc | apply Kd.R_drewN | apply Kd.R_drew)); exact HO_4.out⟩, ⟨by (with_reducible repeat (first | refine blk_drewN ?_ _ | refine blk_drew ?_ | refine blk_alloc ?_ _)); exact BK101.out⟩, ⟨by repeat (first | (with_reducible first | exact HB.out | apply below_alloc | apply pw_below_drewN | apply below_drew1 | refine below_set ?_ GE101.out) | exact HB.out)⟩⟩
           ·replace c55 := Bool.eq_false_iff.mpr c55
            subst c55
            have H1 : (lambrequinlaw09_SafeJust.l1 k2 t102 x4_1 true (wrap64 (x8_2 + 1)) a0_0 l0_1 l0_2) = some r := by rw [if_neg (show ¬ (false = true) by decide)] at H; exact H
            clear H
            have H := H1
            clear H1
            have H' := Aside0.mk H
            clear H
            obtain ⟨Ao60, co60, eo60⟩ := Kd.R_slice HO_4.out
            subst eo60
            try go_wp2
            have n0_ := Aside0.mk (Kd.R_drew HO_4.out)
            have n1_ := Aside0.mk (blk_drew BK101.out)
            have n2_ := Aside0.mk (below_drew1 HB.out)
            clear HO_4
            clear BK101
            clear HB
            have HO_4 := n0_
            have BK101 := n1_
            have HB := n2_
            clear n0_ n1_ n2_
            have p127 : 0 ≤ (x8_2 : Int) := of_decide_eq_true (by first | (with_reducible assumption) | assumption)
            have q127 : x8_2 < (x4_1.length : Int) := of_decide_eq_true (by first | (with_reducible assumption) | assumption)
            obtain ⟨ad127, e127, hx127_0, hx127_1, hx127_2, hx127_3, hx127_4⟩ := at_T45 (Kd.R_reads' HO_4.out).2.2 x8_2 p127 q127
            (try rw [← Nbq54.out] at hx127_0)
            (try rw [← Nbq54.out] at hx127_2)
            cases e127
            replace p127 := eq_true p127
            replace q127 := eq_true q127
            refine start_ (n := 19) (S := fun w' => w'.cell? (ad127.add ((x8_2).toNat * 5)) = some (.bool false) ∧ w'.cell? ⟨(ad127.add ((x8_2).toNat * 5)).block, (ad127.add ((x8_2).toNat * 5)).off + 1, none⟩ = some (.string ((rd_T45 x4_1 x8_2).name)) ∧ w'.cell? ⟨(ad127.add ((x8_2).toNat * 5)).block, (ad127.add ((x8_2).toNat * 5)).off + 2, none⟩ = some (.bool ((rd_T45 x4_1 x8_2).val.isSym)) ∧ w'.cell? ⟨(ad127.add ((x8_2).toNat * 5)).block, (ad127.add ((x8_2).toNat * 5)).off + 3, none⟩ = some (.string ((rd_T45 x4_1 x8_2).val.sym)) ∧ w'.cell? ⟨(ad127.add ((x8_2).toNat * 5)).block, (ad127.add ((x8_2).toNat * 5)).off + 4, none⟩ = some (.int .i64 ((rd_T45 x4_1 x8_2).val.n))) (ds := []) #[false, false, false, false, false, false, false, false, false, false, false, false, false, false, false, false, false, false, false] (by kernel_rfl) rfl rfl ⟨hx127_0, hx127_1, hx127_2, hx127_3, hx127_4⟩ (fun hHeld => ?_); refine with_tabW lambrequinlaw09_SafeJust.tab17 lambrequinlaw09_SafeJust.bits17 (fun HT_ HW_ => ?_)
            generalize wr.drew = w61 at HO_4 BK101 HB hx127_0 hx127_1 hx127_2 hx127_3 hx127_4 hHeld ⊢
            refine pure_ (i := 0) (N := some 58) (v := ?_) (a' := ?_) #[true, false, false, false, false, false, false, false, false, false, false, false, false, false, false, false, false, false, false] rfl rfl (any_of HT_.out (by kernel_rfl)) (fun _ _ _ h => h) (Or.inl ⟨by rfl, ?_⟩) ?_ ?_
            rotate_left
            ·intro w'
             go_simp
             with_reducible rfl
            rotate_left
            ·simp only [Act.put, List.setIfInBounds_toArray, List.set_cons_zero, List.set_cons_succ, i64_w, i32_w]
             rfl
            refine pure_ (i := 1) (N := some 59) (v := ?_) (a' := ?_) #[true, true, false, false, false, false, false, false, false, false, false, false, false, false, false, false, false, false, false] rfl rfl (any_of HT_.out (by kernel_rfl)) (fun _ _ _ h => h) (Or.inl ⟨by rfl, ?_⟩) ?_ ?_
            rotate_left
            ·intro w'
             go_simp
             with_reducible rfl
            rotate_left
            ·simp only [Act.put, List.setIfInBounds_toArray, List.set_cons_zero, List.set_cons_succ, i64_w, i32_w]
             rfl
            refine pure_ (i := 2) (N := some 60) (v := ?_) (a' := ?_) #[true, true, true, false, false, false, false, false, false, false, false, false, false, false, false, false, false, false, false] rfl rfl (any_of HT_.out (by kernel_rfl)) (fun _ _ _ h => h) (Or.inl ⟨by rfl, ?_⟩) ?_ ?_
            rotate_left
            ·intro w'
             go_simp
             with_reducible rfl
            rotate_left
            ·simp only [Act.put, List.setIfInBounds_toArray, List.set_cons_zero, List.set_cons_succ, i64_w, i32_w]
             rfl
            refine pure_ (i := 3) (N := some 61) (v := ?_) (a' := ?_) #[true, true, true, true, false, false, false, false, false, false, false, false, false, false, false, false, false, false, false] rfl rfl (any_of HT_.out (by kernel_rfl)) (fun _ _ _ h => h) (Or.inl ⟨by rfl, ?_⟩) ?_ ?_
            rotate_left
            ·intro w'
             go_simp
             with_reducible rfl
            rotate_left
            ·simp only [Act.put, List.setIfInBounds_toArray, List.set_cons_zero, List.set_cons_succ, i64_w, i32_w]
             rfl
            refine pure_ (i := 4) (N := some 62) (v := ?_) (a' := ?_) #[true, true, true, true, true, false, false, false, false, false, false, false, false, false, false, false, false, false, false] rfl rfl (any_of HT_.out (by kernel_rfl)) (fun _ _ _ h => h) (Or.inl ⟨by rfl, ?_⟩) ?_ ?_
            rotate_left
            ·intro w'
             go_simp
             with_reducible rfl
            rotate_left
            ·simp only [Act.put, List.setIfInBounds_toArray, List.set_cons_zero, List.set_cons_succ, i64_w, i32_w]
             rfl
            refine pure_ (i := 5) (N := some 63) (v := ?_) (a' := ?_) #[true, true, true, true, true, true, false, false, false, false, false, false, false, false, false, false, false, false, false] rfl rfl (any_of HT_.out (by kernel_rfl)) (fun _ _ _ h => h) (Or.inl ⟨by rfl, ?_⟩) ?_ ?_
            rotate_left
            ·intro w'
             go_simp
             with_reducible rfl
            rotate_left
            ·simp only [Act.put, List.setIfInBounds_toArray, List.set_cons_zero, List.set_cons_succ, i64_w, i32_w]
             rfl
            refine take_ (i := 6) (N := some 64) (v := ?_) (a' := ?_) #[true, true, true, true, true, true, true, false, false, false, false, false, false, false, false, false, false, false, false] rfl rfl (take_ofW HT_.out HW_.out (by kernel_rfl)) (fun _ _ _ h => h) (Or.inl ⟨by rfl, ?_⟩) hHeld ?_ ?_
            rotate_left
            ·rintro w' ⟨s0, s1, s2, s3, s4⟩
             go_simp
             with_reducible rfl
            rotate_left
            ·simp only [Act.put, List.setIfInBounds_toArray, List.set_cons_zero, List.set_cons_succ, i64_w, i32_w]
             rfl
            refine pure_ (i := 7) (N := some 65) (v := ?_) (a' := ?_) #[true, true, true, true, true, true, true, true, false, false, false, false, false, false, false, false, false, false, false] rfl rfl (any_of HT_.out (by kernel_rfl)) (fun _ _ _ h => h) (Or.inl ⟨by rfl, ?_⟩) ?_ ?_
            rotate_left
            ·intro w'
             go_simp
             with_reducible rfl
            rotate_left
            ·simp only [Act.put, List.setIfInBounds_toArray, List.set_cons_zero, List.set_cons_succ, i64_w, i32_w]
             rfl
            refine pure_ (i := 8) (N := some 66) (v := ?_) (a' := ?_) #[true, true, true, true, true, true, true, true, true, false, false, false, false, false, false, false, false, false, false] rfl rfl (any_of HT_.out (by kernel_rfl)) (fun _ _ _ h => h) (Or.inl ⟨by rfl, ?_⟩) ?_ ?_
            rotate_left
            ·intro w'
             go_simp
             with_reducible rfl
            rotate_left
            ·simp only [Act.put, List.setIfInBounds_toArray, List.set_cons_zero, List.set_cons_succ, i64_w, i32_w]
             rfl
            refine pure_ (i := 9) (N := some 67) (v := undef) (a' := ?_) #[true, true, true, true, true, true, true, true, true, true, false, false, false, false, false, false, false, false, false] rfl rfl (any_of HT_.out (by kernel_rfl)) (fun _ _ _ h => h) (Or.inr ⟨by rfl, rfl⟩) ?_ ?_
            rotate_left
            ·simp only [Act.put, List.setIfInBounds_toArray, List.set_cons_zero, List.set_cons_succ, i64_w, i32_w]
             rfl
            refine pure_ (i := 10) (N := some 68) (v := undef) (a' := ?_) #[true, true, true, true, true, true, true, true, true, true, true, false, false, false, false, false, false, false, false] rfl rfl (any_of HT_.out (by kernel_rfl)) (fun _ _ _ h => h) (Or.inr ⟨by rfl, rfl⟩) ?_ ?_
            rotate_left
            ·simp only [Act.put, List.setIfInBounds_toArray, List.set_cons_zero, List.set_cons_succ, i64_w, i32_w]
             rfl
            refine pure_ (i := 11) (N := some 69) (v := undef) (a' := ?_) #[true, true, true, true, true, true, true, true, true, true, true, true, false, false, false, false, false, false, false] rfl rfl (any_of HT_.out (by kernel_rfl)) (fun _ _ _ h => h) (Or.inr ⟨by rfl, rfl⟩) ?_ ?_
            rotate_left
            ·simp only [Act.put, List.setIfInBounds_toArray, List.set_cons_zero, List.set_cons_succ, i64_w, i32_w]
             rfl
            refine pure_ (i := 12) (N := some 70) (v := undef) (a' := ?_) #[true, true, true, true, true, true, true, true, true, true, true, true, true, false, false, false, false, false, false] rfl rfl (any_of HT_.out (by kernel_rfl)) (fun _ _ _ h => h) (Or.inr ⟨by rfl, rfl⟩) ?_ ?_
            rotate_left
            ·simp only [Act.put, List.setIfInBounds_toArray, List.set_cons_zero, List.set_cons_succ, i64_w, i32_w]
             rfl
            refine pure_ (i := 13) (N := some 71) (v := undef) (a' := ?_) #[true, true, true, true, true, true, true, true, true, true, true, true, true, true, false, false, false, false, false] rfl rfl (any_of HT_.out (by kernel_rfl)) (fun _ _ _ h => h) (Or.inr ⟨by rfl, rfl⟩) ?_ ?_
            rotate_left
            ·simp only [Act.put, List.setIfInBounds_toArray, List.set_cons_zero, List.set_cons_succ, i64_w, i32_w]
             rfl
            refine pure_ (i := 14) (N := some 72) (v := undef) (a' := ?_) #[true, true, true, true, true, true, true, true, true, true, true, true, true, true, true, false, false, false, false] rfl rfl (any_of HT_.out (by kernel_rfl)) (fun _ _ _ h => h) (Or.inr ⟨by rfl, rfl⟩) ?_ ?_
            rotate_left
            ·simp only [Act.put, List.setIfInBounds_toArray, List.set_cons_zero, List.set_cons_succ, i64_w, i32_w]
             rfl
            refine pure_ (i := 15) (N := some 73) (v := undef) (a' := ?_) #[true, true, true, true, true, true, true, true, true, true, true, true, true, true, true, true, false, false, false] rfl rfl (any_of HT_.out (by kernel_rfl)) (fun _ _ _ h => h) (Or.inr ⟨by rfl, rfl⟩) ?_ ?_
            rotate_left
            ·simp only [Act.put, List.setIfInBounds_toArray, List.set_cons_zero, List.set_cons_succ, i64_w, i32_w]
             rfl
            refine pure_ (i := 16) (N := some 74) (v := ?_) (a' := ?_) #[true, true, true, true, true, true, true, true, true, true, true, true, true, true, true, true, true, false, false] rfl rfl (any_of HT_.out (by kernel_rfl)) (fun _ _ _ h => h) (Or.inl ⟨by rfl, ?_⟩) ?_ ?_
            rotate_left
            ·intro w'
             go_simp
             with_reducible rfl
            rotate_left
            ·simp only [Act.put, List.setIfInBounds_toArray, List.set_cons_zero, List.set_cons_succ, i64_w, i32_w]
             rfl
            refine pure_ (i := 17) (N := some 75) (v := ?_) (a' := ?_) #[true, true, true, true, true, true, true, true, true, true, true, true, true, true, true, true, true, true, false] rfl rfl (any_of HT_.out (by kernel_rfl)) (fun _ _ _ h => h) (Or.inl ⟨by rfl, ?_⟩) ?_ ?_
            rotate_left
            ·intro w'
             go_simp
             with_reducible rfl
            rotate_left
            ·simp only [Act.put, List.setIfInBounds_toArray, List.set_cons_zero, List.set_cons_succ, i64_w, i32_w]
             rfl
            refine pure_ (i := 18) (N := some 7) (v := ?_) (a' := ?_) #[true, true, true, true, true, true, true, true, true, true, true, true, true, true, true, true, true, true, true] rfl rfl (any_of HT_.out (by kernel_rfl)) (fun _ _ _ h => h) (Or.inl ⟨by rfl, ?_⟩) ?_ ?_
            rotate_left
            ·intro w'
             go_simp
             with_reducible rfl
            rotate_left
            ·simp only [Act.put, List.setIfInBounds_toArray, List.set_cons_zero, List.set_cons_succ, i64_w, i32_w]
             rfl
            refine done_ (done_of HT_.out (by kernel_rfl)) ?_
            try go_wp2
            go_roundg k2
            case measure => have := HK1.out; have := HK2.out; omega
            case rel => exact ⟨(true), (wrap64 (x8_2 + 1)), (by first | rfl | (simp; done) | (simp [*]; done)), (by first | rfl | (simp; done) | (simp [*]; done)), H', ⟨by have := HK1.out; have := HK2.out; omega⟩, ⟨by (with_reducible repeat (first | apply Kd.R_alloc | apply Kd.R_drewN | apply Kd.R_drew)); exact HO_4.out⟩, ⟨by (with_reducible repeat (first | refine blk_drewN ?_ _ | refine blk_drew ?_ | refine blk_alloc ?_ _)); exact BK101.out⟩, ⟨by repeat (first | (with_reducible first | exact HB.out | apply below_alloc | apply pw_below_drewN | apply below_drew1 | refine below_set ?_ GE101.out) | exact HB.out)⟩⟩
          ·rw [if_neg c53] at H
           exact absurd H (by simp)
         ·replace c52 := Bool.eq_false_iff.mpr c52
          subst c52
          have H1 : (lambrequinlaw09_SafeJust.l1 k2 t102 x4_1 false (wrap64 (x8_2 + 1)) a0_0 l0_1 l0_2) = some r := by rw [if_neg (show ¬ (false = true) by decide)] at H; exact H
          clear H
          have H := H1
          clear H1
          have H' := Aside0.mk H
          clear H
          obtain ⟨Ao62, co62, eo62⟩ := Kd.R_slice HO_4.out
          subst eo62
          try go_wp2
          have n0_ := Aside0.mk (Kd.R_drew HO_4.out)
          have n1_ := Aside0.mk (blk_drew BK101.out)
          have n2_ := Aside0.mk (below_drew1 HB.out)
          clear HO_4
          clear BK101
          clear HB
          have HO_4 := n0_
          have BK101 := n1_
          have HB := n2_
          clear n0_ n1_ n2_
          refine start_ (n := 19) (S := fun w' => True) (ds := []) #[false, false, false, false, false, false, false, false, false, false, false, false, false, false, false, false, false, false, false] (by kernel_rfl) rfl rfl trivial (fun hHeld => ?_); refine with_tabW lambrequinlaw09_SafeJust.tab17 lambrequinlaw09_SafeJust.bits17 (fun HT_ HW_ => ?_)
          generalize wr.drew = w63 at HO_4 BK101 HB hHeld ⊢
          refine pure_ (i := 0) (N := some 58) (v := ?_) (a' := ?_) #[true, false, false, false, false, false, false, false, false, false, false, false, false, false, false, false, false, false, false] rfl rfl (any_of HT_.out (by kernel_rfl)) (fun _ _ _ h => h) (Or.inl ⟨by rfl, ?_⟩) ?_ ?_
          rotate_left
          ·intro w'
           go_simp
           with_reducible rfl
          rotate_left
          ·simp only [Act.put, List.setIfInBounds_toArray, List.set_cons_zero, List.set_cons_succ, i64_w, i32_w]
           rfl
          refine pure_ (i := 1) (N := some 59) (v := ?_) (a' := ?_) #[true, true, false, false, false, false, false, false, false, false, false, false, false, false, false, false, false, false, false] rfl rfl (any_of HT_.out (by kernel_rfl)) (fun _ _ _ h => h) (Or.inl ⟨by rfl, ?_⟩) ?_ ?_
          rotate_left
          ·intro w'
           go_simp
           with_reducible rfl
          rotate_left
          ·simp only [Act.put, List.setIfInBounds_toArray, List.set_cons_zero, List.set_cons_succ, i64_w, i32_w]
           rfl
          refine pure_ (i := 2) (N := some 60) (v := undef) (a' := ?_) #[true, true, true, false, false, false, false, false, false, false, false, false, false, false, false, false, false, false, false] rfl rfl (any_of HT_.out (by kernel_rfl)) (fun _ _ _ h => h) (Or.inr ⟨by rfl, rfl⟩) ?_ ?_
          rotate_left
          ·simp only [Act.put, List.setIfInBounds_toArray, List.set_cons_zero, List.set_cons_succ, i64_w, i32_w]
           rfl
          refine pure_ (i := 3) (N := some 61) (v := undef) (a' := ?_) #[true, true, true, true, false, false, false, false, false, false, false, false, false, false, false, false, false, false, false] rfl rfl (any_of HT_.out (by kernel_rfl)) (fun _ _ _ h => h) (Or.inr ⟨by rfl, rfl⟩) ?_ ?_
          rotate_left
          ·simp only [Act.put, List.setIfInBounds_toArray, List.set_cons_zero, List.set_cons_succ, i64_w, i32_w]
           rfl
          refine pure_ (i := 4) (N := some 62) (v := undef) (a' := ?_) #[true, true, true, true, true, false, false, false, false, false, false, false, false, false, false, false, false, false, false] rfl rfl (any_of HT_.out (by kernel_rfl)) (fun _ _ _ h => h) (Or.inr ⟨by rfl, rfl⟩) ?_ ?_
          rotate_left
          ·simp only [Act.put, List.setIfInBounds_toArray, List.set_cons_zero, List.set_cons_succ, i64_w, i32_w]
           rfl
          refine pure_ (i := 5) (N := some 63) (v := undef) (a' := ?_) #[true, true, true, true, true, true, false, false, false, false, false, false, false, false, false, false, false, false, false] rfl rfl (any_of HT_.out (by kernel_rfl)) (fun _ _ _ h => h) (Or.inr ⟨by rfl, rfl⟩) ?_ ?_
          rotate_left
          ·simp only [Act.put, List.setIfInBounds_toArray, List.set_cons_zero, List.set_cons_succ, i64_w, i32_w]
           rfl
          refine pure_ (i := 6) (N := some 64) (v := undef) (a' := ?_) #[true, true, true, true, true, true, true, false, false, false, false, false, false, false, false, false, false, false, false] rfl rfl (any_of HT_.out (by kernel_rfl)) (fun _ _ _ h => h) (Or.inr ⟨by rfl, rfl⟩) ?_ ?_
          rotate_left
          ·simp only [Act.put, List.setIfInBounds_toArray, List.set_cons_zero, List.set_cons_succ, i64_w, i32_w]
           rfl
          refine pure_ (i := 7) (N := some 65) (v := undef) (a' := ?_) #[true, true, true, true, true, true, true, true, false, false, false, false, false, false, false, false, false, false, false] rfl rfl (any_of HT_.out (by kernel_rfl)) (fun _ _ _ h => h) (Or.inr ⟨by rfl, rfl⟩) ?_ ?_
          rotate_left
          ·simp only [Act.put, List.setIfInBounds_toArray, List.set_cons_zero, List.set_cons_succ, i64_w, i32_w]
           rfl
          refine pure_ (i := 8) (N := some 66) (v := undef) (a' := ?_) #[true, true, true, true, true, true, true, true, true, false, false, false, false, false, false, false, false, false, false] rfl rfl (any_of HT_.out (by kernel_rfl)) (fun _ _ _ h => h) (Or.inr ⟨by rfl, rfl⟩) ?_ ?_
          rotate_left
          ·simp only [Act.put, List.setIfInBounds_toArray, List.set_cons_zero, List.set_cons_succ, i64_w, i32_w]
           rfl
          refine pure_ (i := 9) (N := some 67) (v := undef) (a' := ?_) #[true, true, true, true, true, true, true, true, true, true, false, false, false, false, false, false, false, false, false] rfl rfl (any_of HT_.out (by kernel_rfl)) (fun _ _ _ h => h) (Or.inr ⟨by rfl, rfl⟩) ?_ ?_
          rotate_left
          ·simp only [Act.put, List.setIfInBounds_toArray, List.set_cons_zero, List.set_cons_succ, i64_w, i32_w]
           rfl
          refine pure_ (i := 10) (N := some 68) (v := undef) (a' := ?_) #[true, true, true, true, true, true, true, true, true, true, true, false, false, false, false, false, false, false, false] rfl rfl (any_of HT_.out (by kernel_rfl)) (fun _ _ _ h => h) (Or.inr ⟨by rfl, rfl⟩) ?_ ?_
          rotate_left
          ·simp only [Act.put, List.setIfInBounds_toArray, List.set_cons_zero, List.set_cons_succ, i64_w, i32_w]
           rfl
          refine pure_ (i := 11) (N := some 69) (v := undef) (a' := ?_) #[true, true, true, true, true, true, true, true, true, true, true, true, false, false, false, false, false, false, false] rfl rfl (any_of HT_.out (by kernel_rfl)) (fun _ _ _ h => h) (Or.inr ⟨by rfl, rfl⟩) ?_ ?_
          rotate_left
          ·simp only [Act.put, List.setIfInBounds_toArray, List.set_cons_zero, List.set_cons_succ, i64_w, i32_w]
           rfl
          refine pure_ (i := 12) (N := some 70) (v := undef) (a' := ?_) #[true, true, true, true, true, true, true, true, true, true, true, true, true, false, false, false, false, false, false] rfl rfl (any_of HT_.out (by kernel_rfl)) (fun _ _ _ h => h) (Or.inr ⟨by rfl, rfl⟩) ?_ ?_
          rotate_left
          ·simp only [Act.put, List.setIfInBounds_toArray, List.set_cons_zero, List.set_cons_succ, i64_w, i32_w]
           rfl
          refine pure_ (i := 13) (N := some 71) (v := undef) (a' := ?_) #[true, true, true, true, true, true, true, true, true, true, true, true, true, true, false, false, false, false, false] rfl rfl (any_of HT_.out (by kernel_rfl)) (fun _ _ _ h => h) (Or.inr ⟨by rfl, rfl⟩) ?_ ?_
          rotate_left
          ·simp only [Act.put, List.setIfInBounds_toArray, List.set_cons_zero, List.set_cons_succ, i64_w, i32_w]
           rfl
          refine pure_ (i := 14) (N := some 72) (v := undef) (a' := ?_) #[true, true, true, true, true, true, true, true, true, true, true, true, true, true, true, false, false, false, false] rfl rfl (any_of HT_.out (by kernel_rfl)) (fun _ _ _ h => h) (Or.inr ⟨by rfl, rfl⟩) ?_ ?_
          rotate_left
          ·simp only [Act.put, List.setIfInBounds_toArray, List.set_cons_zero, List.set_cons_succ, i64_w, i32_w]
           rfl
          refine pure_ (i := 15) (N := some 73) (v := undef) (a' := ?_) #[true, true, true, true, true, true, true, true, true, true, true, true, true, true, true, true, false, false, false] rfl rfl (any_of HT_.out (by kernel_rfl)) (fun _ _ _ h => h) (Or.inr ⟨by rfl, rfl⟩) ?_ ?_
          rotate_left
          ·simp only [Act.put, List.setIfInBounds_toArray, List.set_cons_zero, List.set_cons_succ, i64_w, i32_w]
           rfl
          refine pure_ (i := 16) (N := some 74) (v := undef) (a' := ?_) #[true, true, true, true, true, true, true, true, true, true, true, true, true, true, true, true, true, false, false] rfl rfl (any_of HT_.out (by kernel_rfl)) (fun _ _ _ h => h) (Or.inr ⟨by rfl, rfl⟩) ?_ ?_
          rotate_left
          ·simp only [Act.put, List.setIfInBounds_toArray, List.set_cons_zero, List.set_cons_succ, i64_w, i32_w]
           rfl
          refine pure_ (i := 17) (N := some 75) (v := ?_) (a' := ?_) #[true, true, true, true, true, true, true, true, true, true, true, true, true, true, true, true, true, true, false] rfl rfl (any_of HT_.out (by kernel_rfl)) (fun _ _ _ h => h) (Or.inl ⟨by rfl, ?_⟩) ?_ ?_
          rotate_left
          ·intro w'
           go_simp
           with_reducible rfl
          rotate_left
          ·simp only [Act.put, List.setIfInBounds_toArray, List.set_cons_zero, List.set_cons_succ, i64_w, i32_w]
           rfl
          refine pure_ (i := 18) (N := some 7) (v := ?_) (a' := ?_) #[true, true, true, true, true, true, true, true, true, true, true, true, true, true, true, true, true, true, true] rfl rfl (any_of HT_.out (by kernel_rfl)) (fun _ _ _ h => h) (Or.inl ⟨by rfl, ?_⟩) ?_ ?_
          rotate_left
          ·intro w'
           go_simp
           with_reducible rfl
          rotate_left
          ·simp only [Act.put, List.setIfInBounds_toArray, List.set_cons_zero, List.set_cons_succ, i64_w, i32_w]
           rfl
          refine done_ (done_of HT_.out (by kernel_rfl)) ?_
          try go_wp2
          go_roundg k2
          case measure => have := HK1.out; have := HK2.out; omega
          case rel => exact ⟨(false), (wrap64 (x8_2 + 1)), (by first | rfl | (simp; done) | (simp [*]; done)), (by first | rfl | (simp; done) | (simp [*]; done)), H', ⟨by have := HK1.out; have := HK2.out; omega⟩, ⟨by (with_reducible repeat (first | apply Kd.R_alloc | apply Kd.R_drewN | apply Kd.R_drew)); exact HO_4.out⟩, ⟨by (with_reducible repeat (first | refine blk_drewN ?_ _ | refine blk_drew ?_ | refine blk_alloc ?_ _)); exact BK101.out⟩, ⟨by repeat (first | (with_reducible first | exact HB.out | apply below_alloc | apply pw_below_drewN | apply below_drew1 | refine below_set ?_ GE101.out) | exact HB.out)⟩⟩
        ·rw [if_neg c51] at H
         have c51b0 : decide (x8_2 < (x4_1.length : Int)) = false := decide_eq_false c51
         clear c51
         replace H := Option.bind_eq_some_iff.mp H
         obtain ⟨⟨t130, t131, t132⟩, A640, H⟩ := H
         replace H : (if t102 = true then (some ((t132 == 0) == x7_2)) else (some false)) = some r := H
         have A64 := Aside0.mk A640
         clear A640
         by_cases c65 : t102 = true
         ·subst c65
          have H1 : (some ((t132 == 0) == x7_2)) = some r := by rw [if_pos rfl] at H; exact H
          clear H
          have H := H1
          clear H1
          obtain rfl := Option.some.inj H
          obtain ⟨Ao66, co66, eo66⟩ := Kd.R_slice HO_4.out
          subst eo66
          have hcz67_0 : wr.cell? ⟨gb101, 0, none⟩ = some (.string a0_0) := (blk_cell BK101.out 0).trans rfl
          have hcz67_1 : wr.cell? ⟨gb101, 1, none⟩ = some (.slice A0_1 l0_1.length c0_1) := (blk_cell BK101.out 1).trans rfl
          have hcz67_2 : wr.cell? ⟨gb101, 2, none⟩ = some (.slice A0_2 l0_2.length c0_2) := (blk_cell BK101.out 2).trans rfl
          have hfz67_0 := blk_frozen BK101.out 0
          have hfz67_1 := blk_frozen BK101.out 1
          have hfz67_2 := blk_frozen BK101.out 2
          go_wp2_with (first | ((with_reducible refine gate_callee (f := 28) rfl ?_); refine goesL_ (some 78) rfl rfl Try.func28 (by kernel_rfl) rfl #[.agg #[.string a0_0, .slice A0_1 l0_1.length c0_1, .slice A0_2 l0_2.length c0_2]] rfl (by (try simp only [List.map_toArray, List.map_cons, List.map_nil]); first | done | rfl | (simp only [List.length_drop, List.length_take]; rfl)) ?_; (with_reducible refine (safe_Check.calls k2 a0_0 _ _ l0_1 _ _ l0_2 t130 t131 t132 _ ?side1 ?side2 ?side3 ?side4 A64.out).mono ?_); (case side1 => repeat (first | exact (Kd.C_below HR0_1.out HB.out) | (with_reducible refine Kd.C_alloc ?_ _) | (with_reducible refine Kd.C_drewN ?_ _) | (with_reducible refine Kd.C_drew ?_))); (case side2 => exact HC0_1.out); (case side3 => repeat (first | exact (Kd.C_below HR0_2.out HB.out) | (with_reducible refine Kd.C_alloc ?_ _) | (with_reducible refine Kd.C_drewN ?_ _) | (with_reducible refine Kd.C_drew ?_))); (case side4 => exact HC0_2.out); rintro e w68 ⟨rfl, hb⟩; refine ⟨_, rfl, ?_⟩; have n0_ := Aside0.mk (Kd.R_below (by (with_reducible repeat (first | apply Kd.R_alloc | apply Kd.R_drewN | apply Kd.R_drew)); exact HO_4.out) hb); have n1_ := Aside0.mk (blk_below (g := gb101) (o := .cells #[.string a0_0, .slice A0_1 l0_1.length c0_1, .slice A0_2 l0_2.length c0_2] 27 (0, 0)) (by (with_reducible repeat (first | refine blk_drewN ?_ _ | refine blk_drew ?_ | refine blk_alloc ?_ _)); exact BK101.out) hb); have n2_ := Aside0.mk (below_step (by repeat (first | (with_reducible first | exact HB.out | apply below_alloc | apply pw_below_drewN | apply below_drew1 | refine below_set ?_ GE101.out) | exact HB.out)) hb); clear HO_4; clear BK101; clear HB; have HO_4 := n0_; have BK101 := n1_; have HB := n2_; clear n0_ n1_ n2_; (try clear hb); (try clear hb2); (try clear hk); (try clear hi)))
          go_ret
          exact ⟨by first | rfl | (simp [errW_none, errW_some] <;> rfl) | (simp [*, errW_none, errW_some] <;> rfl), by repeat (first | (with_reducible first | exact HB.out | apply below_alloc | apply pw_below_drewN | apply below_drew1 | refine below_set ?_ GE101.out) | exact HB.out)⟩
         ·replace c65 := Bool.eq_false_iff.mpr c65
          subst c65
          have H1 : (some false) = some r := by rw [if_neg (show ¬ (false = true) by decide)] at H; exact H
          clear H
          have H := H1
          clear H1
          obtain rfl := Option.some.inj H
          obtain ⟨Ao69, co69, eo69⟩ := Kd.R_slice HO_4.out
          subst eo69
          have hcz70_0 : wr.cell? ⟨gb101, 0, none⟩ = some (.string a0_0) := (blk_cell BK101.out 0).trans rfl
          have hcz70_1 : wr.cell? ⟨gb101, 1, none⟩ = some (.slice A0_1 l0_1.length c0_1) := (blk_cell BK101.out 1).trans rfl
          have hcz70_2 : wr.cell? ⟨gb101, 2, none⟩ = some (.slice A0_2 l0_2.length c0_2) := (blk_cell BK101.out 2).trans rfl
          have hfz70_0 := blk_frozen BK101.out 0
          have hfz70_1 := blk_frozen BK101.out 1
          have hfz70_2 := blk_frozen BK101.out 2
          go_wp2_with (first | ((with_reducible refine gate_callee (f := 28) rfl ?_); refine goesL_ (some 78) rfl rfl Try.func28 (by kernel_rfl) rfl #[.agg #[.string a0_0, .slice A0_1 l0_1.length c0_1, .slice A0_2 l0_2.length c0_2]] rfl (by (try simp only [List.map_toArray, List.map_cons, List.map_nil]); first | done | rfl | (simp only [List.length_drop, List.length_take]; rfl)) ?_; (with_reducible refine (safe_Check.calls k2 a0_0 _ _ l0_1 _ _ l0_2 t130 t131 t132 _ ?side1 ?side2 ?side3 ?side4 A64.out).mono ?_); (case side1 => repeat (first | exact (Kd.C_below HR0_1.out HB.out) | (with_reducible refine Kd.C_alloc ?_ _) | (with_reducible refine Kd.C_drewN ?_ _) | (with_reducible refine Kd.C_drew ?_))); (case side2 => exact HC0_1.out); (case side3 => repeat (first | exact (Kd.C_below HR0_2.out HB.out) | (with_reducible refine Kd.C_alloc ?_ _) | (with_reducible refine Kd.C_drewN ?_ _) | (with_reducible refine Kd.C_drew ?_))); (case side4 => exact HC0_2.out); rintro e w71 ⟨rfl, hb⟩; refine ⟨_, rfl, ?_⟩; have n0_ := Aside0.mk (Kd.R_below (by (with_reducible repeat (first | apply Kd.R_alloc | apply Kd.R_drewN | apply Kd.R_drew)); exact HO_4.out) hb); have n1_ := Aside0.mk (blk_below (g := gb101) (o := .cells #[.string a0_0, .slice A0_1 l0_1.length c0_1, .slice A0_2 l0_2.length c0_2] 27 (0, 0)) (by (with_reducible repeat (first | refine blk_drewN ?_ _ | refine blk_drew ?_ | refine blk_alloc ?_ _)); exact BK101.out) hb); have n2_ := Aside0.mk (below_step (by repeat (first | (with_reducible first | exact HB.out | apply below_alloc | apply pw_below_drewN | apply below_drew1 | refine below_set ?_ GE101.out) | exact HB.out)) hb); clear HO_4; clear BK101; clear HB; have HO_4 := n0_; have BK101 := n1_; have HB := n2_; clear n0_ n1_ n2_; (try clear hb); (try clear hb2); (try clear hk); (try clear hi)))
          go_ret
          exact ⟨by first | rfl | (simp [errW_none, errW_some] <;> rfl) | (simp [*, errW_none, errW_some] <;> rfl), by repeat (first | (with_reducible first | exact HB.out | apply below_alloc | apply pw_below_drewN | apply below_drew1 | refine below_set ?_ GE101.out) | exact HB.out)⟩
  ·rw [if_neg c5] at H
   exact absurd H (by simp)
 ·replace c4 := Bool.eq_false_iff.mpr c4
  subst c4
  have H1 : (some t102) = some r := by rw [if_neg (show ¬ (false = true) by decide)] at H; exact H
  clear H
  have H := H1
  clear H1
  obtain rfl := Option.some.inj H
  go_enter Try.func8, Try.ntmps8
  go_wp2_with (first | ((with_reducible refine gate_dst (N := 1) rfl ?_); refine box_event ?hg (N := 1) ?hd (cs := #[.string a0_0, .slice A0_1 l0_1.length c0_1, .slice A0_2 l0_2.length c0_2]) (t := 27) ?hr ?_; (case hd => rfl); (case hg => rfl); (case hr => first | (go_simp; done) | (go_simp; rfl)); intro gb101 hg w72 hbox hb; have n0_ := Aside0.mk (below_step (by repeat (first | (with_reducible first | exact HB.out | apply below_alloc | apply pw_below_drewN | apply below_drew1) | exact HB.out)) hb); have n1_ := Aside0.mk (hbox); have n2_ := Aside0.mk ((by rw [hg]; exact (below_size (by repeat (first | (with_reducible first | exact HB.out | apply below_alloc | apply pw_below_drewN | apply below_drew1) | exact HB.out))) : w.heap.size ≤ gb101)); have n3_ := Aside0.mk ((by rw [hg]; exact (below_size (by repeat (first | (with_reducible first | exact HB.out | apply below_alloc | apply pw_below_drewN | apply below_drew1) | exact HB.out))) : w.heap.size ≤ gb101)); clear HB; have HB := n0_; have BK101 := n1_; have GW101 := n2_; have GE101 := n3_; clear n0_ n1_ n2_ n3_; clear hb hbox hg) | ((with_reducible refine gate_callee (f := 25) rfl ?_); refine goesL_ (some 12) rfl rfl Try.func25 (by kernel_rfl) rfl #[] rfl (by (try simp only [List.map_toArray, List.map_cons, List.map_nil]); first | done | rfl | (simp only [List.length_drop, List.length_take]; rfl)) ?_; (with_reducible refine (lambrequinlaw09_shown.calls  t102 _ A2.out).mono ?_); rintro e w73 ⟨rfl, hb⟩; refine ⟨_, rfl, ?_⟩; have n0_ := Aside0.mk (blk_below (g := gb101) (o := .cells #[.string a0_0, .slice A0_1 l0_1.length c0_1, .slice A0_2 l0_2.length c0_2] 27 (0, 0)) (by (with_reducible repeat (first | refine blk_drewN ?_ _ | refine blk_drew ?_ | refine blk_alloc ?_ _)); exact BK101.out) hb); have n1_ := Aside0.mk (below_step (by repeat (first | (with_reducible first | exact HB.out | apply below_alloc | apply pw_below_drewN | apply below_drew1 | refine below_set ?_ GE101.out) | exact HB.out)) hb); clear BK101; clear HB; have BK101 := n0_; have HB := n1_; clear n0_ n1_; (try clear hb); (try clear hb2); (try clear hk); (try clear hi); have hcz74_0 : w73.cell? ⟨gb101, 0, none⟩ = some (.string a0_0) := (blk_cell BK101.out 0).trans rfl; have hcz74_1 : w73.cell? ⟨gb101, 1, none⟩ = some (.slice A0_1 l0_1.length c0_1) := (blk_cell BK101.out 1).trans rfl; have hcz74_2 : w73.cell? ⟨gb101, 2, none⟩ = some (.slice A0_2 l0_2.length c0_2) := (blk_cell BK101.out 2).trans rfl; have hfz74_0 := blk_frozen BK101.out 0; have hfz74_1 := blk_frozen BK101.out 1; have hfz74_2 := blk_frozen BK101.out 2) | ((with_reducible refine gate_callee (f := 26) rfl ?_); refine goesL_ (some 14) rfl rfl Try.func26 (by kernel_rfl) rfl #[.agg #[.string a0_0, .slice A0_1 l0_1.length c0_1, .slice A0_2 l0_2.length c0_2]] rfl (by (try simp only [List.map_toArray, List.map_cons, List.map_nil]); first | done | rfl | (simp only [List.length_drop, List.length_take]; rfl)) ?_; (with_reducible refine (lambrequinlaw09_few.calls k a0_0 _ _ l0_1 _ _ l0_2 false _ ?side1 ?side2 ?side3 ?side4 A3.out).mono ?_); (case side1 => repeat (first | exact (Kd.C_below HR0_1.out HB.out) | (with_reducible refine Kd.C_alloc ?_ _) | (with_reducible refine Kd.C_drewN ?_ _) | (with_reducible refine Kd.C_drew ?_))); (case side2 => exact HC0_1.out); (case side3 => repeat (first | exact (Kd.C_below HR0_2.out HB.out) | (with_reducible refine Kd.C_alloc ?_ _) | (with_reducible refine Kd.C_drewN ?_ _) | (with_reducible refine Kd.C_drew ?_))); (case side4 => exact HC0_2.out); rintro e w75 ⟨rfl, hb⟩; refine ⟨_, rfl, ?_⟩; have n0_ := Aside0.mk (blk_below (g := gb101) (o := .cells #[.string a0_0, .slice A0_1 l0_1.length c0_1, .slice A0_2 l0_2.length c0_2] 27 (0, 0)) (by (with_reducible repeat (first | refine blk_drewN ?_ _ | refine blk_drew ?_ | refine blk_alloc ?_ _)); exact BK101.out) hb); have n1_ := Aside0.mk (below_step (by repeat (first | (with_reducible first | exact HB.out | apply below_alloc | apply pw_below_drewN | apply below_drew1 | refine below_set ?_ GE101.out) | exact HB.out)) hb); clear BK101; clear HB; have BK101 := n0_; have HB := n1_; clear n0_ n1_; (try clear hb); (try clear hb2); (try clear hk); (try clear hi)))
  go_ret
  exact ⟨by first | rfl | (simp [errW_none, errW_some] <;> rfl) | (simp [*, errW_none, errW_some] <;> rfl), by repeat (first | (with_reducible first | exact HB.out | apply below_alloc | apply pw_below_drewN | apply below_drew1 | refine below_set ?_ GE101.out) | exact HB.out)⟩

end Go.Proofs.Ythpejcnldecmoaa.H
/- SafeJust: a rule is safe just if each variable of its head, of negated atoms and of comparisons is in an atom that isn't negated. Conditions: the statement's own. -/
namespace Go.Proofs.Ythpejcnldecmoaa.H
open Go.RowKit Go.Proofs.YthpejcnldecmoaaW.PrintWords
set_option linter.unusedVariables false
set_option linter.unusedSimpArgs false
def bindsB (body : List Liter) (nm : ByteArray) : Bool := body.any fun y => decide (y.kind = 1) && mem nm (names y.atom.args)
theorem bindsB_iff {body : List Liter} {nm : ByteArray} : bindsB body nm = true ↔ nm ∈ boundS body := by
  rw [mem_boundS]; simp [bindsB, mem_iff]
theorem Binds_l0 (p : ByteArray) (h : List Term) (body : List Liter) (nm : ByteArray) (hb : body.length ≤ 1000) (ha : ∀ y ∈ body, y.atom.args.length ≤ 1000) : ∀ (r : List Liter) (n : Nat), body.drop n = r → Ev (fun k => lambrequinref09_Binds.l0 k nm n p h body) (bindsB r nm)
  | [], n, hd => by
    refine Ev.step (fun k => by rw [lambrequinref09_Binds.l0]) ?_
    exact Ev.neg (drop_end hd) (Ev.some (by simp [bindsB]))
  | y :: r, n, hd => by
    obtain ⟨h1, h2, h3, h4, h5⟩ := drop_more hd (by omega)
    have hy : y ∈ body := by
      have : y ∈ body.drop n := by rw [hd]; simp
      exact List.mem_of_mem_drop this
    have hya := ha y hy
    refine Ev.step (fun k => by rw [lambrequinref09_Binds.l0]) ?_
    refine Ev.pos h1 (Ev.pos h2 ?_)
    rw [show rd_T47 body n = y from h3 _, h5]
    have ih := Binds_l0 p h body nm hb ha r (n + 1) h4
    by_cases hk : y.kind = 1
    · refine Ev.pos hk (Ev.bind (Vars_ev _ _ (by omega)) (Ev.bind (In_ev _ nm (by have := names_len y.atom.args; omega)) ?_))
      cases hm : mem nm (names y.atom.args) with
      | true => exact Ev.pos rfl (Ev.some (by simp [bindsB, hk, hm]))
      | false => exact Ev.neg (by simp) (Ev.iff ih (by simp [bindsB, hk, hm]))
    · exact Ev.neg hk (Ev.iff ih (by simp [bindsB, hk]))
theorem Binds_ev (p : ByteArray) (h : List Term) (body : List Liter) (nm : ByteArray) (hb : body.length ≤ 1000) (ha : ∀ y ∈ body, y.atom.args.length ≤ 1000) : Ev (fun k => lambrequinref09_Binds.f k p h body nm) (bindsB body nm) := Binds_l0 p h body nm hb ha body 0 rfl
def usesT (y : Liter) : List Term := (if y.kind = 2 then y.atom.args else []) ++ if y.kind = 3 then [y.l, y.r] else []
def fineT (body : List Liter) (t : Term) : Prop := t.isVar = true → t.name ∈ boundS body
theorem safeP_terms (hd : List Term) (body : List Liter) : safeP hd body ↔ ∀ t ∈ hd ++ body.flatMap usesT, fineT body t := by
  unfold safeP fineT
  have hn : ∀ l : List Term, (∀ x ∈ names l, x ∈ boundS body) ↔ ∀ t ∈ l, t.isVar = true → t.name ∈ boundS body := by
    intro l
    constructor
    · intro h t ht hv; exact h _ (mem_names.2 ⟨t, ht, hv, rfl⟩)
    · intro h x hx
      obtain ⟨t, ht, hv, rfl⟩ := mem_names.1 hx
      exact h t ht hv
  have hu : ∀ y : Liter, (∀ x ∈ usedS y, x ∈ boundS body) ↔ ∀ t ∈ usesT y, t.isVar = true → t.name ∈ boundS body := by
    intro y
    unfold usedS usesT
    by_cases h2 : y.kind = 2
    · have h3 : ¬ y.kind = 3 := by omega
      rw [if_pos h2, if_pos h2, if_neg h3, List.append_nil, hn]
    · rw [if_neg h2, if_neg h2, List.nil_append]
      split
      · rw [hn]
      · simp
  rw [hn]
  constructor
  · rintro ⟨h1, h2⟩ t ht
    rcases List.mem_append.1 ht with ht | ht
    · exact h1 t ht
    · obtain ⟨y, hy, ht⟩ := List.mem_flatMap.1 ht
      exact (hu y).1 (h2 y hy) t ht
  · intro h
    exact ⟨fun t ht => h t (by simp [ht]), fun y hy => (hu y).2 fun t ht => h t (List.mem_append.2 (.inr (List.mem_flatMap.2 ⟨y, hy, ht⟩)))⟩
section
variable (p : ByteArray) (hd : List Term) (body : List Liter) (hb : body.length ≤ 30) (hh : hd.length ≤ 30) (ha : ∀ y ∈ body, y.atom.args.length ≤ 30)
include hb hh ha
theorem Just_l1 (l : List Term) (hl : l.length ≤ 1000000) : ∀ (r : List Term) (n : Nat) (c : Bool), l.drop n = r → (safeP hd body ↔ c = true ∧ ∀ t ∈ r, fineT body t) →
    Ev (fun k => lambrequinlaw09_SafeJust.l1 k true l c n p hd body) true
  | [], n, c, h, e => by
    refine Ev.step (fun k => by rw [lambrequinlaw09_SafeJust.l1]) ?_
    refine Ev.neg (drop_end h) (Ev.bind (Check_ev p hd body (by omega) (by omega) (fun y hy => by have := ha y hy; omega)) ?_)
    refine Ev.pos rfl (Ev.some ?_)
    rw [← chkS_zero] at e
    simp only [List.not_mem_nil, false_implies, implies_true, and_true] at e
    cases c with
    | true => simp [e]
    | false => simp at e; simp [e]
  | y :: r, n, c, h, e => by
    obtain ⟨h1, h2, h3, h4, h5⟩ := drop_more h (by omega)
    refine Ev.step (fun k => by rw [lambrequinlaw09_SafeJust.l1]) ?_
    refine Ev.pos h1 ?_
    rw [h5]
    cases c with
    | false => exact Ev.neg (by simp) (Just_l1 l hl r (n + 1) false h4 (by rw [e]; simp))
    | true =>
      refine Ev.pos rfl (Ev.pos h2 ?_)
      rw [show rd_T45 l n = y from h3 _]
      by_cases hv : y.isVar = true
      · refine Ev.pos hv (Ev.bind (Binds_ev p hd body y.name (by omega) (fun z hz => by have := ha z hz; omega)) ?_)
        refine Just_l1 l hl r (n + 1) _ h4 ?_
        rw [e, bindsB_iff]
        simp [fineT, hv]
      · refine Ev.neg hv (Just_l1 l hl r (n + 1) true h4 ?_)
        rw [e]
        simp [fineT, hv]
theorem Just_l0 : ∀ (r : List Liter) (n : Nat) (acc : List Term), body.drop n = r → n ≤ body.length → acc.length ≤ 30 + n * 32 → (hd ++ body.flatMap usesT = acc ++ r.flatMap usesT) →
    Ev (fun k => lambrequinlaw09_SafeJust.l0 k true acc n p hd body) true
  | [], n, acc, h, hn, hc, e => by
    refine Ev.step (fun k => by rw [lambrequinlaw09_SafeJust.l0]) ?_
    refine Ev.neg (drop_end h) ?_
    refine Just_l1 p hd body hb hh ha acc (by omega) acc 0 true rfl ?_
    rw [safeP_terms, e]
    simp
  | y :: r, n, acc, h, hn, hc, e => by
    obtain ⟨h1, h2, h3, h4, h5⟩ := drop_more h (by omega)
    have hy : y ∈ body := by
      have : y ∈ body.drop n := by rw [h]; simp
      exact List.mem_of_mem_drop this
    have hya := ha y hy
    have hn1 : n + 1 ≤ body.length := by omega
    refine Ev.step (fun k => by rw [lambrequinlaw09_SafeJust.l0]) ?_
    refine Ev.pos h1 (Ev.pos h2 ?_)
    rw [show rd_T47 body n = y from h3 _, h5]
    by_cases k2 : y.kind = 2
    · have k3 : ¬ y.kind = 3 := by omega
      refine Ev.pos k2 (Ev.pos (by omega) (Ev.pure rfl (Ev.neg k3 ?_)))
      exact Just_l0 r (n + 1) (acc ++ y.atom.args) h4 hn1 (by rw [List.length_append]; omega) (by rw [e]; simp [usesT, k2])
    · refine Ev.neg k2 ?_
      by_cases k3 : y.kind = 3
      · refine Ev.pos k3 (Ev.pure (a := [y.l, y.r]) rfl (Ev.pos (by simp; omega) ?_))
        exact Just_l0 r (n + 1) (acc ++ [y.l, y.r]) h4 hn1 (by rw [List.length_append]; simp; omega) (by rw [e]; simp [usesT, k3])
      · exact Ev.neg k3 (Just_l0 r (n + 1) acc h4 hn1 (by omega) (by rw [e]; simp [usesT, k2, k3]))
end
theorem SafeJust_pure (x0 : Rule) (n1 : x0.head.args.length ≤ 9223372036854775807) (n2 : x0.body.length ≤ 9223372036854775807) :
    ∃ k, lambrequinlaw09_SafeJust.f k x0.head.pred x0.head.args x0.body = some true := by
  refine Ev.rounds (g := fun k => lambrequinlaw09_SafeJust.f k x0.head.pred x0.head.args x0.body) ?_
  unfold lambrequinlaw09_SafeJust.f
  refine Ev.pure rfl (Ev.bind (few30_ev _ _ _ n2) ?_)
  cases hf : few30 x0.head.args x0.body with
  | false => exact Ev.neg (by simp) (Ev.now _)
  | true =>
    obtain ⟨hb, hh, ha⟩ := few30_iff.1 hf
    refine Ev.pos rfl (Ev.pure (a := []) rfl (Ev.pos (by simp; omega) ?_))
    exact Just_l0 x0.head.pred x0.head.args x0.body hb hh ha x0.body 0 _ rfl (by omega) (by simp; omega) (by simp)
theorem SafeJust_walk (w : World) (x0 : Rule) (A0_1 : Option Addr) (c0_1 : Nat) (l0_1 : x0.head.args.length ≤ c0_1) (g0_1 : Kd.C k45 w A0_1 x0.head.args.length x0.head.args) (A0_2 : Option Addr) (c0_2 : Nat) (l0_2 : x0.body.length ≤ c0_2) (g0_2 : Kd.C k47 w A0_2 x0.body.length x0.body) :
    Calls Try.prog 8 #[.agg #[.string x0.head.pred, .slice A0_1 x0.head.args.length c0_1, .slice A0_2 x0.body.length c0_2]] w fun e w' => e = .returned (.bool true) ∧ Below w.heap.size w w' := by
  obtain ⟨k, h⟩ := SafeJust_pure x0 g0_1.2.1 g0_2.2.1
  exact (lambrequinlaw09_SafeJust.calls k x0.head.pred A0_1 c0_1 x0.head.args A0_2 c0_2 x0.body true w g0_1 l0_1 g0_2 l0_2 h).mono (fun e w' h' => ⟨h'.1, h'.2⟩)
end Go.Proofs.Ythpejcnldecmoaa.H
namespace Go.Proofs.Ythpejcnldecmoaa.safeJust
open Go.ChangeShapes Go.WideShapes Go.ChangeAt Go.RowKit Go.Proofs.Ythpejcnldecmoaa.H Go.Proofs.YthpejcnldecmoaaW.PrintWords
open Go.ChangeMaps (open_string shut_string)
set_option linter.unusedVariables false
theorem own : ownKnob Try.prog.godebug = none := by kernel_rfl
theorem laidOut : laidOutB Try.prog = true := by kernel_rfl
set_option maxRecDepth 100000 in
theorem lifted (os : Os) (started : os.Started) (H : Type) (enc : TypeId × Value → H) :
    ReturnsInHanded {} Try.checked os 8 .any (Rows.safeJustSpec.pre6 enc Try.prog Try.f8 Rows.safeJustRow.domain false) (Rows.safeJustSpec.post enc Try.prog Try.f8 false true false false) := by
  refine returnsInHanded_of_change_sized (C := Try.checked) own started (by kernel_rfl) Try.func8
    (ChangeSpec.witness6 (enc := enc) (C := Try.checked) false ⟨#[], #[.agg #[.string ⟨#[]⟩, .slice none 0 0, .slice none 0 0]], []⟩ 8 (by kernel_rfl) (by kernel_rfl) (by kernel_rfl) (by kernel_rfl)) ?_
  intro W base args ds gs before hval0 hW hcnd hsz0 _
  have hsz : (DataW.weightsEach Try.prog (Try.f8.params.toList ++ Rows.safeJustSpec.plain.varTypes Try.prog) (ds ++ gs)).all (· ≤ reachBytes) = true := hsz0
  have hval : ∀ (j : Nat) t v, Try.f8.params[j]? = some t → args[j]? = some v → Value.okWide Try.prog W .any base t v := hval0
  have hW' := hW
  obtain ⟨p, q, hA0, hV, rfl, hfz, hnd⟩ := hW
  have hA : DataW.TrodAll enc Try.prog W 0 (fun _ => true) true Try.f8.params.toList args.toList ds p := hA0
  rw [Try.params8] at hA hval hsz
  obtain ⟨v0, vs0, d0, ds0, p0, q0, hargs, rfl, rfl, h0, r0⟩ := trodAll_cons hA
  obtain ⟨rfl, rfl, rfl⟩ := trodAll_nil r0
  obtain rfl : args = #[v0] := by cases args; simp_all
  obtain ⟨rfl, rfl⟩ := trodVars_none hV
  have k0 := h0
  have lt0 : ∀ x ∈ p0, x.block < W.heap.size := by obtain ⟨m, hm⟩ := k0; exact DataW.trod_lt m _ _ _ hm
  obtain ⟨cs0, rfl, -⟩ := okWide_struct Try.underlying27 (hval 0 27 v0 rfl rfl)
  obtain ⟨x0, g0⟩ := opens_Rule.arg k0
  obtain ⟨A0_1, c0_1, A0_2, c0_2, e0, l0_1, g0_1, l0_2, g0_2⟩ := k27_open g0
  obtain ⟨cl0⟩ := cs0
  obtain rfl : cl0 = _ := e0
  clear hA0 hval0 hsz0 hsz
  refine (SafeJust_walk W x0 A0_1 c0_1 l0_1 g0_1 A0_2 c0_2 l0_2 g0_2).mono fun e W' ⟨he, bel⟩ => ?_
  subst he
  exact ⟨_, rfl, _, _, _, [], _, [], hW', trodAll_mk1 (shut_bool Try.underlying4 _), (trodAll_cons_mk (Below.trod laidOut (by kernel_rfl) (of_decide_eq_true (by kernel_rfl)) k0 bel lt0) trodAll_mk0), rfl, bel.frame _, fun h => by cases h⟩
theorem over : Rows.safeJustRow.holds Try.pinned (OpenSpec.ofChange Rows.safeJustSpec) :=
  OpenClaim.holds_of_wide 8 Try.f8 rfl rfl rfl rfl rfl rfl rfl ⟨rfl, rfl, rfl, rfl, rfl⟩ rfl rfl rfl rfl rfl (by kernel_rfl) Try.func8 (by kernel_rfl)
    (of_decide_eq_true (by kernel_rfl)) (by unfold Func.isWrapper; first | (rw [if_pos (by decide +kernel)]; kernel_rfl) | (rw [if_neg (by decide +kernel)]; exact ⟨rfl, rfl⟩))
    (fun os started H enc _ => lifted os started H enc)
theorem proved : Rows.SafeJustSaid := over
end Go.Proofs.Ythpejcnldecmoaa.safeJust
namespace Go.Proofs.Ythpejcnldecmoaa
theorem safeJust_holds : Rows.SafeJustSaid := safeJust.proved
#print axioms safeJust_holds
end Go.Proofs.Ythpejcnldecmoaa

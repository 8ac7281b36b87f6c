/- RowCfgFlows of the seat's law CfgFlows: the law holds, under the statement's own conditions. -/
import Derived.Test.YtnepgcbgkhikkaaNXCfgFlows
import Derived.Test.YtnepgcbgkhikkaaNXCfgFlows1
import Derived.Sort.Walk0
set_option linter.unusedVariables false
set_option linter.unusedSimpArgs false
set_option linter.unusedSectionVars false
namespace Go.Proofs.Ytnepgcbgkhikkaa.H
open Go.RowKit Go.Proofs.YtnepgcbgkhikkaaW.PrintWords Go.Proofs.YtnepgcbgkhikkaaW.PrintLast Go.Proofs.YtnepgcbgkhikkaaW.PrintMore
attribute [local go_sem] max2_int min2_int max_two min_two max_three min_three max_four min_four
mutual
def lambrequinref09_Sorted.l0 : Nat → List ByteArray → List ByteArray → Int → Option (List ByteArray)
 | 0, _, _, _ => none
 | k + 1, x0, x3, x4 => if x4 < (x0.length : Int) then (if 0 ≤ x4 then ((lambrequinref09_In.f k x3 (rdOf ByteArray.empty x0 x4)).bind fun t102 => (if t102 = true then (lambrequinref09_Sorted.l0 k x0 x3 (wrap64 (x4 + 1))) else (lambrequinref09_Sorted.l1 k x0 x3 x4 (x3.length : Int)))) else (none)) else (some x3)
def lambrequinref09_Sorted.l1 : Nat → List ByteArray → List ByteArray → Int → Int → Option (List ByteArray)
 | 0, _, _, _, _ => none
 | k + 1, x0, x3, x4, x5 => if x5 > 0 then (if 0 ≤ (wrap64 (x5 - 1)) then (if (wrap64 (x5 - 1)) < (x3.length : Int) then (if 0 ≤ x4 then (if x4 < (x0.length : Int) then (if (Op.bytesLess ((rdOf ByteArray.empty x0 x4).toList) ((rdOf ByteArray.empty x3 (wrap64 (x5 - 1))).toList)) = true then (lambrequinref09_Sorted.l1 k x0 x3 x4 (wrap64 (x5 - 1))) else ((some (([] : List ByteArray) : List ByteArray)).bind fun y105 => (if 0 ≤ x5 then (if x5 ≤ (x3.length : Int) then ((some (x3.take (x5 : Int).toNat : List ByteArray)).bind fun y108 => (if y105.length + y108.length < 8796093022208 then ((some (y105 ++ y108 : List ByteArray)).bind fun y112 => (if y112.length < 8796093022208 then ((some (y112 ++ [rdOf ByteArray.empty x0 x4] : List ByteArray)).bind fun y116 => ((some (x3.drop (x5 : Int).toNat : List ByteArray)).bind fun y119 => (if y116.length + y119.length < 8796093022208 then (lambrequinref09_Sorted.l0 k x0 (y116 ++ y119) (wrap64 (x4 + 1))) else (none)))) else (none))) else (none))) else (none)) else (none)))) else (none)) else (none)) else (none)) else (none)) else ((some (([] : List ByteArray) : List ByteArray)).bind fun y126 => (if 0 ≤ x5 then (if x5 ≤ (x3.length : Int) then ((some (x3.take (x5 : Int).toNat : List ByteArray)).bind fun y129 => (if y126.length + y129.length < 8796093022208 then ((some (y126 ++ y129 : List ByteArray)).bind fun y133 => (if 0 ≤ x4 then (if x4 < (x0.length : Int) then (if y133.length < 8796093022208 then ((some (y133 ++ [rdOf ByteArray.empty x0 x4] : List ByteArray)).bind fun y137 => ((some (x3.drop (x5 : Int).toNat : List ByteArray)).bind fun y140 => (if y137.length + y140.length < 8796093022208 then (lambrequinref09_Sorted.l0 k x0 (y137 ++ y140) (wrap64 (x4 + 1))) else (none)))) else (none)) else (none)) else (none))) else (none))) else (none)) else (none)))
end
def lambrequinref09_Sorted.f (k : Nat) (l0 : List ByteArray) : Option (List ByteArray) := lambrequinref09_Sorted.l0 k l0 ([] : List ByteArray) 0
theorem lambrequinref09_Sorted.mono_l : ∀ k, (∀ y0 y1 y2, LeO (lambrequinref09_Sorted.l0 k y0 y1 y2) (lambrequinref09_Sorted.l0 (k + 1) y0 y1 y2)) ∧ (∀ y0 y1 y2 y3, LeO (lambrequinref09_Sorted.l1 k y0 y1 y2 y3) (lambrequinref09_Sorted.l1 (k + 1) y0 y1 y2 y3))
 | 0 => ⟨fun _ _ _ r h => by simp [lambrequinref09_Sorted.l0] at h, fun _ _ _ _ r h => by simp [lambrequinref09_Sorted.l1] at h⟩
 | k + 1 => by
  obtain ⟨ih0, ih1⟩ := lambrequinref09_Sorted.mono_l k
  refine ⟨?_, ?_⟩
  ·intro y0 y1 y2
   unfold lambrequinref09_Sorted.l0
   repeat' first
   | (with_reducible exact ih0 _ _ _)
   | (with_reducible exact ih1 _ _ _ _)
   | (with_reducible exact lambrequinref09_In.mono _ _ _)
   | (with_reducible exact LeO.refl _)
   | (with_reducible exact LeO.none _)
   | (with_reducible refine LeO.ite ?_ ?_)
   | (with_reducible refine LeO.bind ?_ (fun _ => ?_))
   | exact ih0 _ _ _
   | exact ih1 _ _ _ _
   | exact lambrequinref09_In.mono _ _ _
   | exact LeO.none _
   | refine LeO.ite ?_ ?_
   | refine LeO.bind ?_ (fun _ => ?_)
  ·intro y0 y1 y2 y3
   unfold lambrequinref09_Sorted.l1
   repeat' first
   | (with_reducible exact ih0 _ _ _)
   | (with_reducible exact ih1 _ _ _ _)
   | (with_reducible exact lambrequinref09_In.mono _ _ _)
   | (with_reducible exact LeO.refl _)
   | (with_reducible exact LeO.none _)
   | (with_reducible refine LeO.ite ?_ ?_)
   | (with_reducible refine LeO.bind ?_ (fun _ => ?_))
   | exact ih0 _ _ _
   | exact ih1 _ _ _ _
   | exact lambrequinref09_In.mono _ _ _
   | exact LeO.none _
   | refine LeO.ite ?_ ?_
   | refine LeO.bind ?_ (fun _ => ?_)
theorem lambrequinref09_Sorted.mono : ∀ a0 k, LeO (lambrequinref09_Sorted.f k a0) (lambrequinref09_Sorted.f (k + 1) a0) := by
 intro a0 k
 obtain ⟨ih0, ih1⟩ := lambrequinref09_Sorted.mono_l k
 unfold lambrequinref09_Sorted.f
 repeat' first
   | (with_reducible exact ih0 _ _ _)
   | (with_reducible exact ih1 _ _ _ _)
   | (with_reducible exact lambrequinref09_In.mono _ _ _)
   | (with_reducible exact LeO.refl _)
   | (with_reducible exact LeO.none _)
   | (with_reducible refine LeO.ite ?_ ?_)
   | (with_reducible refine LeO.bind ?_ (fun _ => ?_))
   | exact ih0 _ _ _
   | exact ih1 _ _ _ _
   | exact lambrequinref09_In.mono _ _ _
   | exact LeO.none _
   | refine LeO.ite ?_ ?_
   | refine LeO.bind ?_ (fun _ => ?_)
set_option maxHeartbeats 8000000 in
set_option maxRecDepth 100000 in
theorem lambrequinref09_Sorted.calls (k : Nat) (A0 : Option Addr) (c0 : Nat) (l0 : List ByteArray) (r : List ByteArray) (w : World) (hr0 : Kd.C Kd.string w A0 l0.length l0) (hc0 : l0.length ≤ c0) (h : lambrequinref09_Sorted.f k l0 = some r) :
  Calls Try.prog 54 #[.slice A0 l0.length c0] w fun e w' => ∃ v0_ : Value, e = .returned (v0_) ∧ Kd.R Kd.string 9 w' w.heap.size (fun _ => True) v0_ r ∧ Below w.heap.size w w' := by
 have HR0 := am hr0
 have HC0 := am hc0
 clear hr0 hc0
 have HB := am (Below.refl w.heap.size w)
 have H : (lambrequinref09_Sorted.l0 k l0 ([] : List ByteArray) 0) = some r := h
 clear h
 have H' := am H
 clear H
 go_enter Try.func54, Try.ntmps54
 go_wp2
 repeat (go_quiet (fail); try go_wp2)
 go_loopg [3, 4] k (fun kq v3 v4 w' => ∃ (x3_1 : List ByteArray) (x4_1 : Int), v4 = .int .i64 x4_1 ∧ Aside0 (lambrequinref09_Sorted.l0 kq l0 x3_1 x4_1 = some r) ∧ Aside0 (kq ≤ k) ∧ Aside0 (Kd.R Kd.string 9 w' w.heap.size (fun _ => True) v3 x3_1) ∧ Aside0 (Below w.heap.size w w'))
 case atStart => exact ⟨(([] : List ByteArray)), (0), (by first | rfl | (simp; done) | (simp [*]; done)), H', ⟨Nat.le_refl _⟩, ⟨by first | exact Kd.R_nil _ _ _ _ _ | exact Kd.N_nil _ _ _ _ _ | exact Kd.V_nil _ _ _ _ _ | exact Kd.Q_nil _ _ _ _ _ | exact Kd.S_nil _ _ _ _ _⟩, ⟨by repeat (first | (with_reducible first | exact HB.out | apply lA | apply lN | apply lD) | exact HB.out)⟩⟩
 case round =>
  clear H'
  obtain ⟨x3_1, x4_1, rfl, HA, HK1, HO_3, HB⟩ := hrel
  cases gk with
  | zero => exact absurd HA.out (by simp [lambrequinref09_Sorted.l0])
  | succ k1 =>
   have H := HA.out
   clear HA
   simp only [lambrequinref09_Sorted.l0] at H
   by_cases c2 : x4_1 < (l0.length : Int)
   ·rw [if_pos c2] at H
    have c2b0 : decide (x4_1 < (l0.length : Int)) = true := decide_eq_true c2
    clear c2
    by_cases c3 : 0 ≤ x4_1
    ·rw [if_pos c3] at H
     have c3b0 : decide (0 ≤ x4_1) = true := decide_eq_true c3
     clear c3
     replace H := Option.bind_eq_some_iff.mp H
     obtain ⟨t102, A40, H⟩ := H
     replace H : (if t102 = true then (lambrequinref09_Sorted.l0 k1 l0 x3_1 (wrap64 (x4_1 + 1))) else (lambrequinref09_Sorted.l1 k1 l0 x3_1 x4_1 (x3_1.length : Int))) = some r := H
     have A4 := am A40
     clear A40
     by_cases c5 : t102 = true
     ·subst c5
      have H1 : (lambrequinref09_Sorted.l0 k1 l0 x3_1 (wrap64 (x4_1 + 1))) = some r := by rw [if_pos rfl] at H; exact H
      clear H
      have H := H1
      clear H1
      have H' := am H
      clear H
      have p101 : 0 ≤ (x4_1 : Int) := of_decide_eq_true (by first | (with_reducible assumption) | assumption)
      have q101 : x4_1 < (l0.length : Int) := of_decide_eq_true (by first | (with_reducible assumption) | assumption)
      obtain ⟨ad101, e101, hx101_0⟩ := Kd.at_string HR0.out x4_1 p101 q101
      cases e101
      replace hx101_0 := (HB.out.cell (blt_ hx101_0)).trans hx101_0
      replace p101 := eq_true p101
      replace q101 := eq_true q101
      obtain ⟨Ao6, co6, eo6⟩ := Kd.R_slice HO_3.out
      subst eo6
      go_wp2_with (first | (go_at_call 21; (with_reducible refine (lambrequinref09_In.calls k1 _ _ x3_1 (rdOf ByteArray.empty l0 x4_1) true _ ?side1 ?side2 A4.out).mono ?_); (case side1 => repeat (first | exact (Kd.R_reads' HO_3.out).2.2 | (with_reducible refine Kd.C_alloc ?_ _) | (with_reducible refine Kd.C_drewN ?_ _) | (with_reducible refine Kd.C_drew ?_))); (case side2 => exact (Kd.R_reads' HO_3.out).2.1); rintro e w' ⟨rfl, ⟨nd, rfl⟩⟩; (try first | exact ⟨rfl, _, World.drewN_drewN _ _ _⟩ | exact ⟨rfl, _, Eq.trans (World.drewN_drewN _ _ _) (congrArg (World.drewN _) (Nat.add_assoc _ _ _))⟩)))
      repeat (go_quiet (first | (go_at_call 21; (with_reducible refine (lambrequinref09_In.calls k1 _ _ x3_1 (rdOf ByteArray.empty l0 x4_1) true _ ?side1 ?side2 A4.out).mono ?_); (case side1 => repeat (first | exact (Kd.R_reads' HO_3.out).2.2 | (with_reducible refine Kd.C_alloc ?_ _) | (with_reducible refine Kd.C_drewN ?_ _) | (with_reducible refine Kd.C_drew ?_))); (case side2 => exact (Kd.R_reads' HO_3.out).2.1); rintro e w' ⟨rfl, ⟨nd, rfl⟩⟩; (try first | exact ⟨rfl, _, World.drewN_drewN _ _ _⟩ | exact ⟨rfl, _, Eq.trans (World.drewN_drewN _ _ _) (congrArg (World.drewN _) (Nat.add_assoc _ _ _))⟩))); try go_wp2_with (first | (go_at_call 21; (with_reducible refine (lambrequinref09_In.calls k1 _ _ x3_1 (rdOf ByteArray.empty l0 x4_1) true _ ?side1 ?side2 A4.out).mono ?_); (case side1 => repeat (first | exact (Kd.R_reads' HO_3.out).2.2 | (with_reducible refine Kd.C_alloc ?_ _) | (with_reducible refine Kd.C_drewN ?_ _) | (with_reducible refine Kd.C_drew ?_))); (case side2 => exact (Kd.R_reads' HO_3.out).2.1); rintro e w' ⟨rfl, ⟨nd, rfl⟩⟩; (try first | exact ⟨rfl, _, World.drewN_drewN _ _ _⟩ | exact ⟨rfl, _, Eq.trans (World.drewN_drewN _ _ _) (congrArg (World.drewN _) (Nat.add_assoc _ _ _))⟩))))
      go_roundg k1
      case measure => have := HK1.out; omega
      case rel => exact ⟨(x3_1), (wrap64 (x4_1 + 1)), (by first | rfl | (simp; done) | (simp [*]; done)), H', ⟨by have := HK1.out; omega⟩, ⟨by (with_reducible repeat (first | apply Ra | apply Rn | apply Rd)); exact HO_3.out⟩, ⟨by repeat (first | (with_reducible first | exact HB.out | apply lA | apply lN | apply lD) | exact HB.out)⟩⟩
     ·replace c5 := Bool.eq_false_iff.mpr c5
      subst c5
      have H1 : (lambrequinref09_Sorted.l1 k1 l0 x3_1 x4_1 (x3_1.length : Int)) = some r := by rw [if_neg (show ¬ (false = true) by decide)] at H; exact H
      clear H
      have H := H1
      clear H1
      have H' := am H
      clear H
      have p101 : 0 ≤ (x4_1 : Int) := of_decide_eq_true (by first | (with_reducible assumption) | assumption)
      have q101 : x4_1 < (l0.length : Int) := of_decide_eq_true (by first | (with_reducible assumption) | assumption)
      obtain ⟨ad101, e101, hx101_0⟩ := Kd.at_string HR0.out x4_1 p101 q101
      cases e101
      replace hx101_0 := (HB.out.cell (blt_ hx101_0)).trans hx101_0
      replace p101 := eq_true p101
      replace q101 := eq_true q101
      obtain ⟨Ao7, co7, eo7⟩ := Kd.R_slice HO_3.out
      subst eo7
      go_wp2_with (first | (go_at_call 21; (with_reducible refine (lambrequinref09_In.calls k1 _ _ x3_1 (rdOf ByteArray.empty l0 x4_1) false _ ?side1 ?side2 A4.out).mono ?_); (case side1 => repeat (first | exact (Kd.R_reads' HO_3.out).2.2 | (with_reducible refine Kd.C_alloc ?_ _) | (with_reducible refine Kd.C_drewN ?_ _) | (with_reducible refine Kd.C_drew ?_))); (case side2 => exact (Kd.R_reads' HO_3.out).2.1); rintro e w' ⟨rfl, ⟨nd, rfl⟩⟩; (try first | exact ⟨rfl, _, World.drewN_drewN _ _ _⟩ | exact ⟨rfl, _, Eq.trans (World.drewN_drewN _ _ _) (congrArg (World.drewN _) (Nat.add_assoc _ _ _))⟩)))
      repeat (go_quiet (first | (go_at_call 21; (with_reducible refine (lambrequinref09_In.calls k1 _ _ x3_1 (rdOf ByteArray.empty l0 x4_1) false _ ?side1 ?side2 A4.out).mono ?_); (case side1 => repeat (first | exact (Kd.R_reads' HO_3.out).2.2 | (with_reducible refine Kd.C_alloc ?_ _) | (with_reducible refine Kd.C_drewN ?_ _) | (with_reducible refine Kd.C_drew ?_))); (case side2 => exact (Kd.R_reads' HO_3.out).2.1); rintro e w' ⟨rfl, ⟨nd, rfl⟩⟩; (try first | exact ⟨rfl, _, World.drewN_drewN _ _ _⟩ | exact ⟨rfl, _, Eq.trans (World.drewN_drewN _ _ _) (congrArg (World.drewN _) (Nat.add_assoc _ _ _))⟩))); try go_wp2_with (first | (go_at_call 21; (with_reducible refine (lambrequinref09_In.calls k1 _ _ x3_1 (rdOf ByteArray.empty l0 x4_1) false _ ?side1 ?side2 A4.out).mono ?_); (case side1 => repeat (first | exact (Kd.R_reads' HO_3.out).2.2 | (with_reducible refine Kd.C_alloc ?_ _) | (with_reducible refine Kd.C_drewN ?_ _) | (with_reducible refine Kd.C_drew ?_))); (case side2 => exact (Kd.R_reads' HO_3.out).2.1); rintro e w' ⟨rfl, ⟨nd, rfl⟩⟩; (try first | exact ⟨rfl, _, World.drewN_drewN _ _ _⟩ | exact ⟨rfl, _, Eq.trans (World.drewN_drewN _ _ _) (congrArg (World.drewN _) (Nat.add_assoc _ _ _))⟩))))
      go_loopg [5] k1 (fun kq v5 w' => ∃ (x5_2 : Int), v5 = .int .i64 x5_2 ∧ Aside0 (lambrequinref09_Sorted.l1 kq l0 x3_1 x4_1 x5_2 = some r) ∧ Aside0 (kq ≤ k1) ∧ Aside0 (Kd.R Kd.string 9 w' w.heap.size (fun _ => True) (.slice Ao7 x3_1.length co7) x3_1) ∧ Aside0 (Below w.heap.size w w'))
      case atStart => exact ⟨((x3_1.length : Int)), (by first | rfl | (simp; done) | (simp [*]; done)), H', ⟨Nat.le_refl _⟩, ⟨by (with_reducible repeat (first | apply Ra | apply Rn | apply Rd)); exact HO_3.out⟩, ⟨by repeat (first | (with_reducible first | exact HB.out | apply lA | apply lN | apply lD) | exact HB.out)⟩⟩
      case round =>
       clear H'
       try clear p1
       try clear q1
       try clear hx1
       try clear c2
       try clear c2b0
       try clear p2
       try clear c3
       try clear c3b0
       try clear c5
       try clear p6
       try clear hx101_0
       try clear p101
       try clear q101
       obtain ⟨x5_2, rfl, HA, HK2, HO_3, HB⟩ := hrel
       cases gk with
       | zero => exact absurd HA.out (by simp [lambrequinref09_Sorted.l1])
       | succ k2 =>
        have H := HA.out
        clear HA
        simp only [lambrequinref09_Sorted.l1] at H
        by_cases c8 : x5_2 > 0
        ·rw [if_pos c8] at H
         have c8b0 : decide (0 < x5_2) = true := decide_eq_true c8
         clear c8
         obtain ⟨ji9, hji9⟩ : ∃ j_ : Int, (wrap64 (x5_2 - 1)) = j_ := ⟨_, rfl⟩
         replace H : (if 0 ≤ (ji9) then (if (ji9) < (x3_1.length : Int) then (if 0 ≤ x4_1 then (if x4_1 < (l0.length : Int) then (if (Op.bytesLess ((rdOf ByteArray.empty l0 x4_1).toList) ((rdOf ByteArray.empty x3_1 (ji9)).toList)) = true then (lambrequinref09_Sorted.l1 k2 l0 x3_1 x4_1 ji9) else ((some (([] : List ByteArray) : List ByteArray)).bind fun y105 => (if 0 ≤ x5_2 then (if x5_2 ≤ (x3_1.length : Int) then ((some (x3_1.take (x5_2 : Int).toNat : List ByteArray)).bind fun y108 => (if y105.length + y108.length < 8796093022208 then ((some (y105 ++ y108 : List ByteArray)).bind fun y112 => (if y112.length < 8796093022208 then ((some (y112 ++ [rdOf ByteArray.empty l0 x4_1] : List ByteArray)).bind fun y116 => ((some (x3_1.drop (x5_2 : Int).toNat : List ByteArray)).bind fun y119 => (if y116.length + y119.length < 8796093022208 then (lambrequinref09_Sorted.l0 k2 l0 (y116 ++ y119) (wrap64 (x4_1 + 1))) else (none)))) else (none))) else (none))) else (none)) else (none)))) else (none)) else (none)) else (none)) else (none)) = some r := by first | (rw [hji9] at H; exact H) | (simp only [hji9] at H ⊢; exact H)
         have hji9w : (IntKind.i64.wrap (x5_2 - 1)) = ji9 := (i64_w _).trans hji9
         by_cases c10 : 0 ≤ (ji9)
         ·rw [if_pos c10] at H
          have c10b0 : decide (0 ≤ (ji9)) = true := decide_eq_true c10
          clear c10
          by_cases c11 : (ji9) < (x3_1.length : Int)
          ·rw [if_pos c11] at H
           have c11b0 : decide ((ji9) < (x3_1.length : Int)) = true := decide_eq_true c11
           clear c11
           by_cases c12 : 0 ≤ x4_1
           ·rw [if_pos c12] at H
            have c12b0 : decide (0 ≤ x4_1) = true := decide_eq_true c12
            clear c12
            by_cases c13 : x4_1 < (l0.length : Int)
            ·rw [if_pos c13] at H
             have c13b0 : decide (x4_1 < (l0.length : Int)) = true := decide_eq_true c13
             clear c13
             by_cases c14 : (Op.bytesLess ((rdOf ByteArray.empty l0 x4_1).toList) ((rdOf ByteArray.empty x3_1 (ji9)).toList)) = true
             ·rw [if_pos c14] at H
              have c14b0 : (Op.bytesLess ((rdOf ByteArray.empty l0 x4_1).toList) ((rdOf ByteArray.empty x3_1 (ji9)).toList)) = true := c14
              clear c14
              have H' := am H
              clear H
              have p103 : 0 ≤ ((ji9) : Int) := of_decide_eq_true (by first | (with_reducible assumption) | assumption)
              have q103 : (ji9) < (x3_1.length : Int) := of_decide_eq_true (by first | (with_reducible assumption) | assumption)
              obtain ⟨ad103, e103, hx103_0⟩ := Kd.at_string (Kd.R_reads' HO_3.out).2.2 (ji9) p103 q103
              cases e103
              replace p103 := eq_true p103
              replace q103 := eq_true q103
              have p104 : 0 ≤ (x4_1 : Int) := of_decide_eq_true (by first | (with_reducible assumption) | assumption)
              have q104 : x4_1 < (l0.length : Int) := of_decide_eq_true (by first | (with_reducible assumption) | assumption)
              obtain ⟨ad104, e104, hx104_0⟩ := Kd.at_string HR0.out x4_1 p104 q104
              obtain rfl : ad101 = ad104 := (by injection e104)
              replace hx104_0 := (HB.out.cell (blt_ hx104_0)).trans hx104_0
              replace p104 := eq_true p104
              replace q104 := eq_true q104
              go_wp2
              repeat (go_quiet (fail); try go_wp2)
              go_roundg k2
              case measure => have := HK1.out; have := HK2.out; omega
              case rel => exact ⟨(ji9), (by first | rfl | (simp; done) | (simp only [← hji9] <;> (first | rfl | simp)) | (simp [*]; done)), H', ⟨by have := HK1.out; have := HK2.out; omega⟩, ⟨by (with_reducible repeat (first | apply Ra | apply Rn | apply Rd)); exact HO_3.out⟩, ⟨by repeat (first | (with_reducible first | exact HB.out | apply lA | apply lN | apply lD) | exact HB.out)⟩⟩
             ·rw [if_neg c14] at H
              have c14b0 : (Op.bytesLess ((rdOf ByteArray.empty l0 x4_1).toList) ((rdOf ByteArray.empty x3_1 (ji9)).toList)) = false := by simpa using c14
              clear c14
              obtain ⟨y105, hy105⟩ : ∃ y_ : List ByteArray, y_ = (([] : List ByteArray)) := ⟨_, rfl⟩
              replace H : (if 0 ≤ x5_2 then (if x5_2 ≤ (x3_1.length : Int) then ((some (x3_1.take (x5_2 : Int).toNat : List ByteArray)).bind fun y108 => (if y105.length + y108.length < 8796093022208 then ((some (y105 ++ y108 : List ByteArray)).bind fun y112 => (if y112.length < 8796093022208 then ((some (y112 ++ [rdOf ByteArray.empty l0 x4_1] : List ByteArray)).bind fun y116 => ((some (x3_1.drop (x5_2 : Int).toNat : List ByteArray)).bind fun y119 => (if y116.length + y119.length < 8796093022208 then (lambrequinref09_Sorted.l0 k2 l0 (y116 ++ y119) (wrap64 (x4_1 + 1))) else (none)))) else (none))) else (none))) else (none)) else (none)) = some r := by first | (rw [hy105]; with_reducible exact H) | (have H2_ := (Option.bind_some _ _).symm.trans H; rw [hy105]; with_reducible exact H2_) | (have H2_ := (Option.bind_some _ _).symm.trans H; with_reducible exact H2_) | with_reducible exact H | (rw [hy105]; exact H) | exact H
              have Ny105 := am hy105
              clear hy105
              by_cases c15 : 0 ≤ x5_2
              ·rw [if_pos c15] at H
               have c15b0 := eq_true c15
               have c15b1 : decide (0 ≤ x5_2) = true := decide_eq_true c15
               clear c15
               by_cases c16 : x5_2 ≤ (x3_1.length : Int)
               ·rw [if_pos c16] at H
                have c16b0 := eq_true c16
                have c16b1 : decide (x5_2 ≤ (x3_1.length : Int)) = true := decide_eq_true c16
                clear c16
                obtain ⟨y108, hy108⟩ : ∃ y_ : List ByteArray, y_ = (x3_1.take (x5_2 : Int).toNat) := ⟨_, rfl⟩
                replace H : (if y105.length + y108.length < 8796093022208 then ((some (y105 ++ y108 : List ByteArray)).bind fun y112 => (if y112.length < 8796093022208 then ((some (y112 ++ [rdOf ByteArray.empty l0 x4_1] : List ByteArray)).bind fun y116 => ((some (x3_1.drop (x5_2 : Int).toNat : List ByteArray)).bind fun y119 => (if y116.length + y119.length < 8796093022208 then (lambrequinref09_Sorted.l0 k2 l0 (y116 ++ y119) (wrap64 (x4_1 + 1))) else (none)))) else (none))) else (none)) = some r := by first | (rw [hy108]; with_reducible exact H) | (have H2_ := (Option.bind_some _ _).symm.trans H; rw [hy108]; with_reducible exact H2_) | (have H2_ := (Option.bind_some _ _).symm.trans H; with_reducible exact H2_) | with_reducible exact H | (rw [hy108]; exact H) | exact H
                have Ny108 := am hy108
                clear hy108
                by_cases c17 : y105.length + y108.length < 8796093022208
                ·rw [if_pos c17] at H
                 have LMc17 := am c17
                 clear c17
                 obtain ⟨y112, hy112⟩ : ∃ y_ : List ByteArray, y_ = (y105 ++ y108) := ⟨_, rfl⟩
                 replace H : (if y112.length < 8796093022208 then ((some (y112 ++ [rdOf ByteArray.empty l0 x4_1] : List ByteArray)).bind fun y116 => ((some (x3_1.drop (x5_2 : Int).toNat : List ByteArray)).bind fun y119 => (if y116.length + y119.length < 8796093022208 then (lambrequinref09_Sorted.l0 k2 l0 (y116 ++ y119) (wrap64 (x4_1 + 1))) else (none)))) else (none)) = some r := by first | (rw [hy112]; with_reducible exact H) | (have H2_ := (Option.bind_some _ _).symm.trans H; rw [hy112]; with_reducible exact H2_) | (have H2_ := (Option.bind_some _ _).symm.trans H; with_reducible exact H2_) | with_reducible exact H | (rw [hy112]; exact H) | exact H
                 have Ny112 := am hy112
                 clear hy112
                 by_cases c18 : y112.length < 8796093022208
                 ·rw [if_pos c18] at H
                  have LMc18 := am c18
                  clear c18
                  obtain ⟨y116, hy116⟩ : ∃ y_ : List ByteArray, y_ = (y112 ++ [rdOf ByteArray.empty l0 x4_1]) := ⟨_, rfl⟩
                  replace H : ((some (x3_1.drop (x5_2 : Int).toNat : List ByteArray)).bind fun y119 => (if y116.length + y119.length < 8796093022208 then (lambrequinref09_Sorted.l0 k2 l0 (y116 ++ y119) (wrap64 (x4_1 + 1))) else (none))) = some r := by first | (rw [hy116]; with_reducible exact H) | (have H2_ := (Option.bind_some _ _).symm.trans H; rw [hy116]; with_reducible exact H2_) | (have H2_ := (Option.bind_some _ _).symm.trans H; with_reducible exact H2_) | with_reducible exact H | (rw [hy116]; exact H) | exact H
                  have Ny116 := am hy116
                  clear hy116
                  have c19b0 := eq_true (of_decide_eq_true (by first | (with_reducible assumption) | assumption) : 0 ≤ x5_2)
                  have c20b0 := eq_true (of_decide_eq_true (by first | (with_reducible assumption) | assumption) : x5_2 ≤ (x3_1.length : Int))
                  obtain ⟨y119, hy119⟩ : ∃ y_ : List ByteArray, y_ = (x3_1.drop (x5_2 : Int).toNat) := ⟨_, rfl⟩
                  replace H : (if y116.length + y119.length < 8796093022208 then (lambrequinref09_Sorted.l0 k2 l0 (y116 ++ y119) (wrap64 (x4_1 + 1))) else (none)) = some r := by first | (rw [hy119]; with_reducible exact H) | (have H2_ := (Option.bind_some _ _).symm.trans H; rw [hy119]; with_reducible exact H2_) | (have H2_ := (Option.bind_some _ _).symm.trans H; with_reducible exact H2_) | with_reducible exact H | (rw [hy119]; exact H) | exact H
                  have Ny119 := am hy119
                  clear hy119
                  by_cases c21 : y116.length + y119.length < 8796093022208
                  ·rw [if_pos c21] at H
                   have LMc21 := am c21
                   clear c21
                   obtain ⟨y123, hy123⟩ : ∃ y_ : List ByteArray, y_ = (y116 ++ y119) := ⟨_, rfl⟩
                   replace H : (lambrequinref09_Sorted.l0 k2 l0 y123 (wrap64 (x4_1 + 1))) = some r := by first | (rw [hy123]; with_reducible exact H) | (have H2_ := (Option.bind_some _ _).symm.trans H; rw [hy123]; with_reducible exact H2_) | (have H2_ := (Option.bind_some _ _).symm.trans H; with_reducible exact H2_) | with_reducible exact H | (rw [hy123]; exact H) | exact H
                   have Ny123 := am hy123
                   clear hy123
                   have H' := am H
                   clear H
                   have p103 : 0 ≤ ((ji9) : Int) := of_decide_eq_true (by first | (with_reducible assumption) | assumption)
                   have q103 : (ji9) < (x3_1.length : Int) := of_decide_eq_true (by first | (with_reducible assumption) | assumption)
                   obtain ⟨ad103, e103, hx103_0⟩ := Kd.at_string (Kd.R_reads' HO_3.out).2.2 (ji9) p103 q103
                   cases e103
                   replace p103 := eq_true p103
                   replace q103 := eq_true q103
                   have p104 : 0 ≤ (x4_1 : Int) := of_decide_eq_true (by first | (with_reducible assumption) | assumption)
                   have q104 : x4_1 < (l0.length : Int) := of_decide_eq_true (by first | (with_reducible assumption) | assumption)
                   obtain ⟨ad104, e104, hx104_0⟩ := Kd.at_string HR0.out x4_1 p104 q104
                   obtain rfl : ad101 = ad104 := (by injection e104)
                   replace hx104_0 := (HB.out.cell (blt_ hx104_0)).trans hx104_0
                   replace p104 := eq_true p104
                   replace q104 := eq_true q104
                   go_wp2_with (first | ((with_reducible refine gate_dst (N := 37) rfl ?_); refine Kd.R_lit Kd.string _ 9 ?hg (N := 37) ?hd (xs := ([] : List ByteArray)) (inner := []) (ok := fun _ => True) (okp := fun _ => True) ?hr ?hp (fun _ hk => hk) trivial (Below.refl _ _) (Nat.le_refl _) (by simp) ?_; (case hd => rfl); (case hg => rfl); (case hr => first | (go_simp; done) | (go_simp; rfl)); (case hp => exact (Reps.none _ _)); intro v106 w22 ho23 hb hg_ hnew_; clear hg_ hnew_; (first | rw [← Ny105.out] at ho23 | (simp only [Int.reduceToNat] at ho23; rw [← Ny105.out] at ho23)); have HO107 := am (Kd.R_lower (Kd.R_new' ho23 (Kd.R_lt (by (with_reducible repeat (first | apply Ra | apply Rn | apply Rd)); exact HO_3.out))) (below_size (by repeat (first | (with_reducible first | exact HB.out | apply lA | apply lN | apply lD) | exact HB.out)))); replace HO_3 := am (Kd.R_elder' (by (with_reducible repeat (first | apply Ra | apply Rn | apply Rd)); exact HO_3.out) (Kd.R_base ho23) hb); replace HB := am (below_step (by repeat (first | (with_reducible first | exact HB.out | apply lA | apply lN | apply lD) | exact HB.out)) hb); clear hb ho23; have q24 : (x5_2 : Int) ≤ ((x3_1.length : Int) : Int) := of_decide_eq_true (by first | (with_reducible assumption) | assumption); obtain ⟨i024, hi024, _, hsz24, _⟩ := info_parts info9; have hroom24 : x3_1.length ≤ co7 := (Kd.R_reads' HO_3.out).2.1; have hC24 : Kd.C Kd.string _ (some ad103) x3_1.length x3_1 := (Kd.R_reads' HO_3.out).2.2; have hcut24 := cut_to (P := Try.prog) 32 9 .i64 Try.underlying32 hi024 (some ad103) x3_1.length co7 x5_2 (of_decide_eq_true (by first | (with_reducible assumption) | assumption)) q24 hroom24; have hr24 := Kd.C_take (m := (x5_2 : Int).toNat) hC24 (by omega); have hy24 : y108.length = (x5_2 : Int).toNat := (by rw [Ny108.out, List.length_take]; omega); rw [← Ny108.out] at hr24; rw [← hy24] at hcut24; have HR111 := am hr24; have HC111 := am (show y108.length ≤ co7 from by omega); clear hr24 hC24 hroom24 hi024 hsz24; have KY24 := am hy24; clear hy24; have KL24 := am (show (x5_2 : Int).toNat ≤ x3_1.length from by omega); replace q24 := eq_true q24) | ((with_reducible refine gate_builtin (b := .append) (xs := #[.tmp 37, .tmp 40]) rfl ?_); at_builtin; refine Kd.R_append_rows Kd.string (w0 := w) w.heap.size rfl (.tmp 37) (.tmp 40) 32 9 (.string ⟨#[]⟩) 16 rfl Try.underlying32 info9 rfl (by decide) (by omega) v106 y105 y108 _ _ _ (fun k_ => some k_ ≠ (.slice (some ad103) x3_1.length co7 : Value).ownBlock) (fun _ => False) rfl rfl ?aO ?aR (fun _ _ h => h) (fun _ h => h.elim) ?aF ?aB ?aS ?aL ?_; (case aR => repeat (first | exact (by repeat (first | (with_reducible exact HR111.out) | (with_reducible refine Kd.C_alloc ?_ _) | (with_reducible refine Kd.C_drewN ?_ _) | (with_reducible refine Kd.C_drew ?_) | exact HR111.out)) | (with_reducible refine Kd.C_alloc ?_ _) | (with_reducible refine Kd.C_drewN ?_ _) | (with_reducible refine Kd.C_drew ?_))); (case aB => exact (by repeat (first | (with_reducible first | exact HB.out | apply lA | apply lN | apply lD) | exact HB.out))); (case aF => exact (fun k_ hk => Kd.fresh' (Kd.R_lt (by (with_reducible repeat (first | apply Ra | apply Rn | apply Rd)); exact HO_3.out)) k_ hk)); (case aO => exact (by (with_reducible repeat (first | apply Ra | apply Rn | apply Rd)); exact Kd.R_mono HO107.out (fun _ hk => hk.2))); (case aS => exact (below_size (by repeat (first | (with_reducible first | exact HB.out | apply lA | apply lN | apply lD) | exact HB.out)))); (case aL => have := LMc17.out; omega); intro v113 w25 ho hb hg hat; rw [← Ny112.out] at ho; replace HB := am (hb); replace HR111 := am ((show Kd.C Kd.string w25 (some ad103) y108.length y108 from by rw [Ny108.out]; exact Kd.C_take (m := (x5_2 : Int).toNat) ((Kd.R_reads' (Kd.R_after (ok := (fun _ => True)) (by (with_reducible repeat (first | apply Ra | apply Rn | apply Rd)); exact HO_3.out) hg hat)).2.2) KL24.out)); replace HO_3 := am (Kd.R_after (ok := (fun _ => True)) (by (with_reducible repeat (first | apply Ra | apply Rn | apply Rd)); exact HO_3.out) hg hat); have HO114 := am (ho); clear HO107; clear ho hb hg hat; have p115 : 0 ≤ (x4_1 : Int) := of_decide_eq_true (by first | (with_reducible assumption) | assumption); have q115 : x4_1 < (l0.length : Int) := of_decide_eq_true (by first | (with_reducible assumption) | assumption); obtain ⟨ad115, e115, hx115_0⟩ := Kd.at_string HR0.out x4_1 p115 q115; obtain rfl : ad101 = ad115 := (by injection e115); replace hx115_0 := (HB.out.cell (blt_ hx115_0)).trans hx115_0; replace p115 := eq_true p115; replace q115 := eq_true q115) | ((with_reducible refine gate_builtin (b := .append) (xs := #[.tmp 42, .tmp 47]) rfl ?_); at_builtin; refine Kd.R_append Kd.string (w0 := w) w.heap.size rfl (.tmp 42) (.tmp 47) 32 9 (.string ⟨#[]⟩) 16 rfl Try.underlying32 info9 rfl (by decide) (by omega) v113 y112 (rdOf ByteArray.empty l0 x4_1) [.string (rdOf ByteArray.empty l0 x4_1)] (fun k_ => some k_ ≠ (.slice (some ad103) x3_1.length co7 : Value).ownBlock) (fun _ => False) rfl rfl ?aP (fun _ hk => hk.elim) ?aF ?aO ?aB ?aS ?aL ?_; (case aP => exact rfl); (case aB => exact (by repeat (first | (with_reducible first | exact HB.out | apply lA | apply lN | apply lD) | exact HB.out))); (case aF => exact (fun k_ hk => Kd.fresh' (Kd.R_lt (by (with_reducible repeat (first | apply Ra | apply Rn | apply Rd)); exact HO_3.out)) k_ hk)); (case aO => exact (by (with_reducible repeat (first | apply Ra | apply Rn | apply Rd)); exact HO114.out)); (case aS => exact (below_size (by repeat (first | (with_reducible first | exact HB.out | apply lA | apply lN | apply lD) | exact HB.out)))); (case aL => have := LMc18.out; omega); intro v117 w26 ho hb hg hat; rw [← Ny116.out] at ho; replace HB := am (hb); replace HR111 := am ((show Kd.C Kd.string w26 (some ad103) y108.length y108 from by rw [Ny108.out]; exact Kd.C_take (m := (x5_2 : Int).toNat) ((Kd.R_reads' (Kd.R_after (ok := (fun _ => True)) (by (with_reducible repeat (first | apply Ra | apply Rn | apply Rd)); exact HO_3.out) hg hat)).2.2) KL24.out)); replace HO_3 := am (Kd.R_after (ok := (fun _ => True)) (by (with_reducible repeat (first | apply Ra | apply Rn | apply Rd)); exact HO_3.out) hg hat); have HO118 := am (ho); clear HO114; clear ho hb hg hat; have q27 : (x5_2 : Int) ≤ ((x3_1.length : Int) : Int) := of_decide_eq_true (by first | (with_reducible assumption) | assumption); obtain ⟨i027, hi027, _, hsz27, _⟩ := info_parts info9; have hroom27 : x3_1.length ≤ co7 := (Kd.R_reads' HO_3.out).2.1; have hC27 : Kd.C Kd.string _ (some ad103) x3_1.length x3_1 := (Kd.R_reads' HO_3.out).2.2; have q027 : (0 : Int) ≤ (x5_2 : Int) := of_decide_eq_true (by first | (with_reducible assumption) | assumption); have hcut27 := cut_from (P := Try.prog) 32 9 .i64 Try.underlying32 hi027 1 hsz27 (some ad103) x3_1.length co7 x5_2 q027 q27; have hr27 := Kd.C_drop (m := (x5_2 : Int).toNat) (c := co7) hC27 (by omega) hroom27; obtain ⟨A27, hA27⟩ : ∃ A1, A1 = (if co7 = (x5_2 : Int).toNat then (some ad103) else ((some ad103) : Option Addr).map (·.add ((x5_2 : Int).toNat * 1))) := ⟨_, rfl⟩; obtain ⟨c27, hc27⟩ : ∃ c1, c1 = co7 - (x5_2 : Int).toNat := ⟨_, rfl⟩; have hy27 : y119.length = x3_1.length - (x5_2 : Int).toNat := (by rw [Ny119.out, List.length_drop] <;> omega); rw [show (x3_1).drop (x5_2 : Int).toNat = y119 from Ny119.out.symm] at hr27; replace hr27 : Kd.C Kd.string _ A27 y119.length y119 := (by rw [hA27]; exact hr27); rw [← hy27, ← hA27, ← hc27] at hcut27; have HR122 := am hr27; have HC122 := am (show y119.length ≤ c27 from by rw [hy27, hc27]; exact Nat.sub_le_sub_right hroom27 _); clear hr27 hC27 hroom27 hi027 hsz27 hc27; have KY27 := am hy27; have KA27 := am hA27; clear hy27 hA27; have KL27 := am (show (x5_2 : Int).toNat ≤ x3_1.length from by omega); replace q27 := eq_true q27) | ((with_reducible refine gate_builtin (b := .append) (xs := #[.tmp 49, .tmp 52]) rfl ?_); at_builtin; refine Kd.R_append_rows Kd.string (w0 := w) w.heap.size rfl (.tmp 49) (.tmp 52) 32 9 (.string ⟨#[]⟩) 16 rfl Try.underlying32 info9 rfl (by decide) (by omega) v117 y116 y119 _ _ _ (fun k_ => some k_ ≠ (.slice (some ad103) x3_1.length co7 : Value).ownBlock) (fun _ => False) rfl rfl ?aO ?aR (fun _ _ h => h) (fun _ h => h.elim) ?aF ?aB ?aS ?aL ?_; (case aR => repeat (first | exact (by repeat (first | (with_reducible exact HR122.out) | (with_reducible refine Kd.C_alloc ?_ _) | (with_reducible refine Kd.C_drewN ?_ _) | (with_reducible refine Kd.C_drew ?_) | exact HR122.out)) | (with_reducible refine Kd.C_alloc ?_ _) | (with_reducible refine Kd.C_drewN ?_ _) | (with_reducible refine Kd.C_drew ?_))); (case aB => exact (by repeat (first | (with_reducible first | exact HB.out | apply lA | apply lN | apply lD) | exact HB.out))); (case aF => exact (fun k_ hk => Kd.fresh' (Kd.R_lt (by (with_reducible repeat (first | apply Ra | apply Rn | apply Rd)); exact HO_3.out)) k_ hk)); (case aO => exact (by (with_reducible repeat (first | apply Ra | apply Rn | apply Rd)); exact HO118.out)); (case aS => exact (below_size (by repeat (first | (with_reducible first | exact HB.out | apply lA | apply lN | apply lD) | exact HB.out)))); (case aL => have := LMc21.out; omega); intro v124 w28 ho hb hg hat; rw [← Ny123.out] at ho; replace HB := am (hb); replace HR111 := am ((show Kd.C Kd.string w28 (some ad103) y108.length y108 from by rw [Ny108.out]; exact Kd.C_take (m := (x5_2 : Int).toNat) ((Kd.R_reads' (Kd.R_after (ok := (fun _ => True)) (by (with_reducible repeat (first | apply Ra | apply Rn | apply Rd)); exact HO_3.out) hg hat)).2.2) KL24.out)); replace HR122 := am ((show Kd.C Kd.string w28 A27 y119.length y119 from by rw [Ny119.out, KA27.out]; exact Kd.C_drop (m := (x5_2 : Int).toNat) (c := co7) ((Kd.R_reads' (Kd.R_after (ok := (fun _ => True)) (by (with_reducible repeat (first | apply Ra | apply Rn | apply Rd)); exact HO_3.out) hg hat)).2.2) KL27.out ((Kd.R_reads' (Kd.R_after (ok := (fun _ => True)) (by (with_reducible repeat (first | apply Ra | apply Rn | apply Rd)); exact HO_3.out) hg hat)).2.1))); replace HO_3 := am (Kd.R_after (ok := (fun _ => True)) (by (with_reducible repeat (first | apply Ra | apply Rn | apply Rd)); exact HO_3.out) hg hat); have HO125 := am (ho); clear HO118; clear ho hb hg hat))
                   repeat (go_quiet (first | ((with_reducible refine gate_dst (N := 37) rfl ?_); refine Kd.R_lit Kd.string _ 9 ?hg (N := 37) ?hd (xs := ([] : List ByteArray)) (inner := []) (ok := fun _ => True) (okp := fun _ => True) ?hr ?hp (fun _ hk => hk) trivial (Below.refl _ _) (Nat.le_refl _) (by simp) ?_; (case hd => rfl); (case hg => rfl); (case hr => first | (go_simp; done) | (go_simp; rfl)); (case hp => exact (Reps.none _ _)); intro v106 w22 ho23 hb hg_ hnew_; clear hg_ hnew_; (first | rw [← Ny105.out] at ho23 | (simp only [Int.reduceToNat] at ho23; rw [← Ny105.out] at ho23)); have HO107 := am (Kd.R_lower (Kd.R_new' ho23 (Kd.R_lt (by (with_reducible repeat (first | apply Ra | apply Rn | apply Rd)); exact HO_3.out))) (below_size (by repeat (first | (with_reducible first | exact HB.out | apply lA | apply lN | apply lD) | exact HB.out)))); replace HO_3 := am (Kd.R_elder' (by (with_reducible repeat (first | apply Ra | apply Rn | apply Rd)); exact HO_3.out) (Kd.R_base ho23) hb); replace HB := am (below_step (by repeat (first | (with_reducible first | exact HB.out | apply lA | apply lN | apply lD) | exact HB.out)) hb); clear hb ho23; have q24 : (x5_2 : Int) ≤ ((x3_1.length : Int) : Int) := of_decide_eq_true (by first | (with_reducible assumption) | assumption); obtain ⟨i024, hi024, _, hsz24, _⟩ := info_parts info9; have hroom24 : x3_1.length ≤ co7 := (Kd.R_reads' HO_3.out).2.1; have hC24 : Kd.C Kd.string _ (some ad103) x3_1.length x3_1 := (Kd.R_reads' HO_3.out).2.2; have hcut24 := cut_to (P := Try.prog) 32 9 .i64 Try.underlying32 hi024 (some ad103) x3_1.length co7 x5_2 (of_decide_eq_true (by first | (with_reducible assumption) | assumption)) q24 hroom24; have hr24 := Kd.C_take (m := (x5_2 : Int).toNat) hC24 (by omega); have hy24 : y108.length = (x5_2 : Int).toNat := (by rw [Ny108.out, List.length_take]; omega); rw [← Ny108.out] at hr24; rw [← hy24] at hcut24; have HR111 := am hr24; have HC111 := am (show y108.length ≤ co7 from by omega); clear hr24 hC24 hroom24 hi024 hsz24; have KY24 := am hy24; clear hy24; have KL24 := am (show (x5_2 : Int).toNat ≤ x3_1.length from by omega); replace q24 := eq_true q24) | ((with_reducible refine gate_builtin (b := .append) (xs := #[.tmp 37, .tmp 40]) rfl ?_); at_builtin; refine Kd.R_append_rows Kd.string (w0 := w) w.heap.size rfl (.tmp 37) (.tmp 40) 32 9 (.string ⟨#[]⟩) 16 rfl Try.underlying32 info9 rfl (by decide) (by omega) v106 y105 y108 _ _ _ (fun k_ => some k_ ≠ (.slice (some ad103) x3_1.length co7 : Value).ownBlock) (fun _ => False) rfl rfl ?aO ?aR (fun _ _ h => h) (fun _ h => h.elim) ?aF ?aB ?aS ?aL ?_; (case aR => repeat (first | exact (by repeat (first | (with_reducible exact HR111.out) | (with_reducible refine Kd.C_alloc ?_ _) | (with_reducible refine Kd.C_drewN ?_ _) | (with_reducible refine Kd.C_drew ?_) | exact HR111.out)) | (with_reducible refine Kd.C_alloc ?_ _) | (with_reducible refine Kd.C_drewN ?_ _) | (with_reducible refine Kd.C_drew ?_))); (case aB => exact (by repeat (first | (with_reducible first | exact HB.out | apply lA | apply lN | apply lD) | exact HB.out))); (case aF => exact (fun k_ hk => Kd.fresh' (Kd.R_lt (by (with_reducible repeat (first | apply Ra | apply Rn | apply Rd)); exact HO_3.out)) k_ hk)); (case aO => exact (by (with_reducible repeat (first | apply Ra | apply Rn | apply Rd)); exact Kd.R_mono HO107.out (fun _ hk => hk.2))); (case aS => exact (below_size (by repeat (first | (with_reducible first | exact HB.out | apply lA | apply lN | apply lD) | exact HB.out)))); (case aL => have := LMc17.out; omega); intro v113 w25 ho hb hg hat; rw [← Ny112.out] at ho; replace HB := am (hb); replace HR111 := am ((show Kd.C Kd.string w25 (some ad103) y108.length y108 from by rw [Ny108.out]; exact Kd.C_take (m := (x5_2 : Int).toNat) ((Kd.R_reads' (Kd.R_after (ok := (fun _ => True)) (by (with_reducible repeat (first | apply Ra | apply Rn | apply Rd)); exact HO_3.out) hg hat)).2.2) KL24.out)); replace HO_3 := am (Kd.R_after (ok := (fun _ => True)) (by (with_reducible repeat (first | apply Ra | apply Rn | apply Rd)); exact HO_3.out) hg hat); have HO114 := am (ho); clear HO107; clear ho hb hg hat; have p115 : 0 ≤ (x4_1 : Int) := of_decide_eq_true (by first | (with_reducible assumption) | assumption); have q115 : x4_1 < (l0.length : Int) := of_decide_eq_true (by first | (with_reducible assumption) | assumption); obtain ⟨ad115, e115, hx115_0⟩ := Kd.at_string HR0.out x4_1 p115 q115; obtain rfl : ad101 = ad115 := (by injection e115); replace hx115_0 := (HB.out.cell (blt_ hx115_0)).trans hx115_0; replace p115 := eq_true p115; replace q115 := eq_true q115) | ((with_reducible refine gate_builtin (b := .append) (xs := #[.tmp 42, .tmp 47]) rfl ?_); at_builtin; refine Kd.R_append Kd.string (w0 := w) w.heap.size rfl (.tmp 42) (.tmp 47) 32 9 (.string ⟨#[]⟩) 16 rfl Try.underlying32 info9 rfl (by decide) (by omega) v113 y112 (rdOf ByteArray.empty l0 x4_1) [.string (rdOf ByteArray.empty l0 x4_1)] (fun k_ => some k_ ≠ (.slice (some ad103) x3_1.length co7 : Value).ownBlock) (fun _ => False) rfl rfl ?aP (fun _ hk => hk.elim) ?aF ?aO ?aB ?aS ?aL ?_; (case aP => exact rfl); (case aB => exact (by repeat (first | (with_reducible first | exact HB.out | apply lA | apply lN | apply lD) | exact HB.out))); (case aF => exact (fun k_ hk => Kd.fresh' (Kd.R_lt (by (with_reducible repeat (first | apply Ra | apply Rn | apply Rd)); exact HO_3.out)) k_ hk)); (case aO => exact (by (with_reducible repeat (first | apply Ra | apply Rn | apply Rd)); exact HO114.out)); (case aS => exact (below_size (by repeat (first | (with_reducible first | exact HB.out | apply lA | apply lN | apply lD) | exact HB.out)))); (case aL => have := LMc18.out; omega); intro v117 w26 ho hb hg hat; rw [← Ny116.out] at ho; replace HB := am (hb); replace HR111 := am ((show Kd.C Kd.string w26 (some ad103) y108.length y108 from by rw [Ny108.out]; exact Kd.C_take (m := (x5_2 : Int).toNat) ((Kd.R_reads' (Kd.R_after (ok := (fun _ => True)) (by (with_reducible repeat (first | apply Ra | apply Rn | apply Rd)); exact HO_3.out) hg hat)).2.2) KL24.out)); replace HO_3 := am (Kd.R_after (ok := (fun _ => True)) (by (with_reducible repeat (first | apply Ra | apply Rn | apply Rd)); exact HO_3.out) hg hat); have HO118 := am (ho); clear HO114; clear ho hb hg hat; have q27 : (x5_2 : Int) ≤ ((x3_1.length : Int) : Int) := of_decide_eq_true (by first | (with_reducible assumption) | assumption); obtain ⟨i027, hi027, _, hsz27, _⟩ := info_parts info9; have hroom27 : x3_1.length ≤ co7 := (Kd.R_reads' HO_3.out).2.1; have hC27 : Kd.C Kd.string _ (some ad103) x3_1.length x3_1 := (Kd.R_reads' HO_3.out).2.2; have q027 : (0 : Int) ≤ (x5_2 : Int) := of_decide_eq_true (by first | (with_reducible assumption) | assumption); have hcut27 := cut_from (P := Try.prog) 32 9 .i64 Try.underlying32 hi027 1 hsz27 (some ad103) x3_1.length co7 x5_2 q027 q27; have hr27 := Kd.C_drop (m := (x5_2 : Int).toNat) (c := co7) hC27 (by omega) hroom27; obtain ⟨A27, hA27⟩ : ∃ A1, A1 = (if co7 = (x5_2 : Int).toNat then (some ad103) else ((some ad103) : Option Addr).map (·.add ((x5_2 : Int).toNat * 1))) := ⟨_, rfl⟩; obtain ⟨c27, hc27⟩ : ∃ c1, c1 = co7 - (x5_2 : Int).toNat := ⟨_, rfl⟩; have hy27 : y119.length = x3_1.length - (x5_2 : Int).toNat := (by rw [Ny119.out, List.length_drop] <;> omega); rw [show (x3_1).drop (x5_2 : Int).toNat = y119 from Ny119.out.symm] at hr27; replace hr27 : Kd.C Kd.string _ A27 y119.length y119 := (by rw [hA27]; exact hr27); rw [← hy27, ← hA27, ← hc27] at hcut27; have HR122 := am hr27; have HC122 := am (show y119.length ≤ c27 from by rw [hy27, hc27]; exact Nat.sub_le_sub_right hroom27 _); clear hr27 hC27 hroom27 hi027 hsz27 hc27; have KY27 := am hy27; have KA27 := am hA27; clear hy27 hA27; have KL27 := am (show (x5_2 : Int).toNat ≤ x3_1.length from by omega); replace q27 := eq_true q27) | ((with_reducible refine gate_builtin (b := .append) (xs := #[.tmp 49, .tmp 52]) rfl ?_); at_builtin; refine Kd.R_append_rows Kd.string (w0 := w) w.heap.size rfl (.tmp 49) (.tmp 52) 32 9 (.string ⟨#[]⟩) 16 rfl Try.underlying32 info9 rfl (by decide) (by omega) v117 y116 y119 _ _ _ (fun k_ => some k_ ≠ (.slice (some ad103) x3_1.length co7 : Value).ownBlock) (fun _ => False) rfl rfl ?aO ?aR (fun _ _ h => h) (fun _ h => h.elim) ?aF ?aB ?aS ?aL ?_; (case aR => repeat (first | exact (by repeat (first | (with_reducible exact HR122.out) | (with_reducible refine Kd.C_alloc ?_ _) | (with_reducible refine Kd.C_drewN ?_ _) | (with_reducible refine Kd.C_drew ?_) | exact HR122.out)) | (with_reducible refine Kd.C_alloc ?_ _) | (with_reducible refine Kd.C_drewN ?_ _) | (with_reducible refine Kd.C_drew ?_))); (case aB => exact (by repeat (first | (with_reducible first | exact HB.out | apply lA | apply lN | apply lD) | exact HB.out))); (case aF => exact (fun k_ hk => Kd.fresh' (Kd.R_lt (by (with_reducible repeat (first | apply Ra | apply Rn | apply Rd)); exact HO_3.out)) k_ hk)); (case aO => exact (by (with_reducible repeat (first | apply Ra | apply Rn | apply Rd)); exact HO118.out)); (case aS => exact (below_size (by repeat (first | (with_reducible first | exact HB.out | apply lA | apply lN | apply lD) | exact HB.out)))); (case aL => have := LMc21.out; omega); intro v124 w28 ho hb hg hat; rw [← Ny123.out] at ho; replace HB := am (hb); replace HR111 := am ((show Kd.C Kd.string w28 (some ad103) y108.length y108 from by rw [Ny108.out]; exact Kd.C_take (m := (x5_2 : Int).toNat) ((Kd.R_reads' (Kd.R_after (ok := (fun _ => True)) (by (with_reducible repeat (first | apply Ra | apply Rn | apply Rd)); exact HO_3.out) hg hat)).2.2) KL24.out)); replace HR122 := am ((show Kd.C Kd.string w28 A27 y119.length y119 from by rw [Ny119.out, KA27.out]; exact Kd.C_drop (m := (x5_2 : Int).toNat) (c := co7) ((Kd.R_reads' (Kd.R_after (ok := (fun _ => True)) (by (with_reducible repeat (first | apply Ra | apply Rn | apply Rd)); exact HO_3.out) hg hat)).2.2) KL27.out ((Kd.R_reads' (Kd.R_after (ok := (fun _ => True)) (by (with_reducible repeat (first | apply Ra | apply Rn | apply Rd)); exact HO_3.out) hg hat)).2.1))); replace HO_3 := am (Kd.R_after (ok := (fun _ => True)) (by (with_reducible repeat (first | apply Ra | apply Rn | apply Rd)); exact HO_3.out) hg hat); have HO125 := am (ho); clear HO118; clear ho hb hg hat)); try go_wp2_with (first | ((with_reducible refine gate_dst (N := 37) rfl ?_); refine Kd.R_lit Kd.string _ 9 ?hg (N := 37) ?hd (xs := ([] : List ByteArray)) (inner := []) (ok := fun _ => True) (okp := fun _ => True) ?hr ?hp (fun _ hk => hk) trivial (Below.refl _ _) (Nat.le_refl _) (by simp) ?_; (case hd => rfl); (case hg => rfl); (case hr => first | (go_simp; done) | (go_simp; rfl)); (case hp => exact (Reps.none _ _)); intro v106 w22 ho23 hb hg_ hnew_; clear hg_ hnew_; (first | rw [← Ny105.out] at ho23 | (simp only [Int.reduceToNat] at ho23; rw [← Ny105.out] at ho23)); have HO107 := am (Kd.R_lower (Kd.R_new' ho23 (Kd.R_lt (by (with_reducible repeat (first | apply Ra | apply Rn | apply Rd)); exact HO_3.out))) (below_size (by repeat (first | (with_reducible first | exact HB.out | apply lA | apply lN | apply lD) | exact HB.out)))); replace HO_3 := am (Kd.R_elder' (by (with_reducible repeat (first | apply Ra | apply Rn | apply Rd)); exact HO_3.out) (Kd.R_base ho23) hb); replace HB := am (below_step (by repeat (first | (with_reducible first | exact HB.out | apply lA | apply lN | apply lD) | exact HB.out)) hb); clear hb ho23; have q24 : (x5_2 : Int) ≤ ((x3_1.length : Int) : Int) := of_decide_eq_true (by first | (with_reducible assumption) | assumption); obtain ⟨i024, hi024, _, hsz24, _⟩ := info_parts info9; have hroom24 : x3_1.length ≤ co7 := (Kd.R_reads' HO_3.out).2.1; have hC24 : Kd.C Kd.string _ (some ad103) x3_1.length x3_1 := (Kd.R_reads' HO_3.out).2.2; have hcut24 := cut_to (P := Try.prog) 32 9 .i64 Try.underlying32 hi024 (some ad103) x3_1.length co7 x5_2 (of_decide_eq_true (by first | (with_reducible assumption) | assumption)) q24 hroom24; have hr24 := Kd.C_take (m := (x5_2 : Int).toNat) hC24 (by omega); have hy24 : y108.length = (x5_2 : Int).toNat := (by rw [Ny108.out, List.length_take]; omega); rw [← Ny108.out] at hr24; rw [← hy24] at hcut24; have HR111 := am hr24; have HC111 := am (show y108.length ≤ co7 from by omega); clear hr24 hC24 hroom24 hi024 hsz24; have KY24 := am hy24; clear hy24; have KL24 := am (show (x5_2 : Int).toNat ≤ x3_1.length from by omega); replace q24 := eq_true q24) | ((with_reducible refine gate_builtin (b := .append) (xs := #[.tmp 37, .tmp 40]) rfl ?_); at_builtin; refine Kd.R_append_rows Kd.string (w0 := w) w.heap.size rfl (.tmp 37) (.tmp 40) 32 9 (.string ⟨#[]⟩) 16 rfl Try.underlying32 info9 rfl (by decide) (by omega) v106 y105 y108 _ _ _ (fun k_ => some k_ ≠ (.slice (some ad103) x3_1.length co7 : Value).ownBlock) (fun _ => False) rfl rfl ?aO ?aR (fun _ _ h => h) (fun _ h => h.elim) ?aF ?aB ?aS ?aL ?_; (case aR => repeat (first | exact (by repeat (first | (with_reducible exact HR111.out) | (with_reducible refine Kd.C_alloc ?_ _) | (with_reducible refine Kd.C_drewN ?_ _) | (with_reducible refine Kd.C_drew ?_) | exact HR111.out)) | (with_reducible refine Kd.C_alloc ?_ _) | (with_reducible refine Kd.C_drewN ?_ _) | (with_reducible refine Kd.C_drew ?_))); (case aB => exact (by repeat (first | (with_reducible first | exact HB.out | apply lA | apply lN | apply lD) | exact HB.out))); (case aF => exact (fun k_ hk => Kd.fresh' (Kd.R_lt (by (with_reducible repeat (first | apply Ra | apply Rn | apply Rd)); exact HO_3.out)) k_ hk)); (case aO => exact (by (with_reducible repeat (first | apply Ra | apply Rn | apply Rd)); exact Kd.R_mono HO107.out (fun _ hk => hk.2))); (case aS => exact (below_size (by repeat (first | (with_reducible first | exact HB.out | apply lA | apply lN | apply lD) | exact HB.out)))); (case aL => have := LMc17.out; omega); intro v113 w25 ho hb hg hat; rw [← Ny112.out] at ho; replace HB := am (hb); replace HR111 := am ((show Kd.C Kd.string w25 (some ad103) y108.length y108 from by rw [Ny108.out]; exact Kd.C_take (m := (x5_2 : Int).toNat) ((Kd.R_reads' (Kd.R_after (ok := (fun _ => True)) (by (with_reducible repeat (first | apply Ra | apply Rn | apply Rd)); exact HO_3.out) hg hat)).2.2) KL24.out)); replace HO_3 := am (Kd.R_after (ok := (fun _ => True)) (by (with_reducible repeat (first | apply Ra | apply Rn | apply Rd)); exact HO_3.out) hg hat); have HO114 := am (ho); clear HO107; clear ho hb hg hat; have p115 : 0 ≤ (x4_1 : Int) := of_decide_eq_true (by first | (with_reducible assumption) | assumption); have q115 : x4_1 < (l0.length : Int) := of_decide_eq_true (by first | (with_reducible assumption) | assumption); obtain ⟨ad115, e115, hx115_0⟩ := Kd.at_string HR0.out x4_1 p115 q115; obtain rfl : ad101 = ad115 := (by injection e115); replace hx115_0 := (HB.out.cell (blt_ hx115_0)).trans hx115_0; replace p115 := eq_true p115; replace q115 := eq_true q115) | ((with_reducible refine gate_builtin (b := .append) (xs := #[.tmp 42, .tmp 47]) rfl ?_); at_builtin; refine Kd.R_append Kd.string (w0 := w) w.heap.size rfl (.tmp 42) (.tmp 47) 32 9 (.string ⟨#[]⟩) 16 rfl Try.underlying32 info9 rfl (by decide) (by omega) v113 y112 (rdOf ByteArray.empty l0 x4_1) [.string (rdOf ByteArray.empty l0 x4_1)] (fun k_ => some k_ ≠ (.slice (some ad103) x3_1.length co7 : Value).ownBlock) (fun _ => False) rfl rfl ?aP (fun _ hk => hk.elim) ?aF ?aO ?aB ?aS ?aL ?_; (case aP => exact rfl); (case aB => exact (by repeat (first | (with_reducible first | exact HB.out | apply lA | apply lN | apply lD) | exact HB.out))); (case aF => exact (fun k_ hk => Kd.fresh' (Kd.R_lt (by (with_reducible repeat (first | apply Ra | apply Rn | apply Rd)); exact HO_3.out)) k_ hk)); (case aO => exact (by (with_reducible repeat (first | apply Ra | apply Rn | apply Rd)); exact HO114.out)); (case aS => exact (below_size (by repeat (first | (with_reducible first | exact HB.out | apply lA | apply lN | apply lD) | exact HB.out)))); (case aL => have := LMc18.out; omega); intro v117 w26 ho hb hg hat; rw [← Ny116.out] at ho; replace HB := am (hb); replace HR111 := am ((show Kd.C Kd.string w26 (some ad103) y108.length y108 from by rw [Ny108.out]; exact Kd.C_take (m := (x5_2 : Int).toNat) ((Kd.R_reads' (Kd.R_after (ok := (fun _ => True)) (by (with_reducible repeat (first | apply Ra | apply Rn | apply Rd)); exact HO_3.out) hg hat)).2.2) KL24.out)); replace HO_3 := am (Kd.R_after (ok := (fun _ => True)) (by (with_reducible repeat (first | apply Ra | apply Rn | apply Rd)); exact HO_3.out) hg hat); have HO118 := am (ho); clear HO114; clear ho hb hg hat; have q27 : (x5_2 : Int) ≤ ((x3_1.length : Int) : Int) := of_decide_eq_true (by first | (with_reducible assumption) | assumption); obtain ⟨i027, hi027, _, hsz27, _⟩ := info_parts info9; have hroom27 : x3_1.length ≤ co7 := (Kd.R_reads' HO_3.out).2.1; have hC27 : Kd.C Kd.string _ (some ad103) x3_1.length x3_1 := (Kd.R_reads' HO_3.out).2.2; have q027 : (0 : Int) ≤ (x5_2 : Int) := of_decide_eq_true (by first | (with_reducible assumption) | assumption); have hcut27 := cut_from (P := Try.prog) 32 9 .i64 Try.underlying32 hi027 1 hsz27 (some ad103) x3_1.length co7 x5_2 q027 q27; have hr27 := Kd.C_drop (m := (x5_2 : Int).toNat) (c := co7) hC27 (by omega) hroom27; obtain ⟨A27, hA27⟩ : ∃ A1, A1 = (if co7 = (x5_2 : Int).toNat then (some ad103) else ((some ad103) : Option Addr).map (·.add ((x5_2 : Int).toNat * 1))) := ⟨_, rfl⟩; obtain ⟨c27, hc27⟩ : ∃ c1, c1 = co7 - (x5_2 : Int).toNat := ⟨_, rfl⟩; have hy27 : y119.length = x3_1.length - (x5_2 : Int).toNat := (by rw [Ny119.out, List.length_drop] <;> omega); rw [show (x3_1).drop (x5_2 : Int).toNat = y119 from Ny119.out.symm] at hr27; replace hr27 : Kd.C Kd.string _ A27 y119.length y119 := (by rw [hA27]; exact hr27); rw [← hy27, ← hA27, ← hc27] at hcut27; have HR122 := am hr27; have HC122 := am (show y119.length ≤ c27 from by rw [hy27, hc27]; exact Nat.sub_le_sub_right hroom27 _); clear hr27 hC27 hroom27 hi027 hsz27 hc27; have KY27 := am hy27; have KA27 := am hA27; clear hy27 hA27; have KL27 := am (show (x5_2 : Int).toNat ≤ x3_1.length from by omega); replace q27 := eq_true q27) | ((with_reducible refine gate_builtin (b := .append) (xs := #[.tmp 49, .tmp 52]) rfl ?_); at_builtin; refine Kd.R_append_rows Kd.string (w0 := w) w.heap.size rfl (.tmp 49) (.tmp 52) 32 9 (.string ⟨#[]⟩) 16 rfl Try.underlying32 info9 rfl (by decide) (by omega) v117 y116 y119 _ _ _ (fun k_ => some k_ ≠ (.slice (some ad103) x3_1.length co7 : Value).ownBlock) (fun _ => False) rfl rfl ?aO ?aR (fun _ _ h => h) (fun _ h => h.elim) ?aF ?aB ?aS ?aL ?_; (case aR => repeat (first | exact (by repeat (first | (with_reducible exact HR122.out) | (with_reducible refine Kd.C_alloc ?_ _) | (with_reducible refine Kd.C_drewN ?_ _) | (with_reducible refine Kd.C_drew ?_) | exact HR122.out)) | (with_reducible refine Kd.C_alloc ?_ _) | (with_reducible refine Kd.C_drewN ?_ _) | (with_reducible refine Kd.C_drew ?_))); (case aB => exact (by repeat (first | (with_reducible first | exact HB.out | apply lA | apply lN | apply lD) | exact HB.out))); (case aF => exact (fun k_ hk => Kd.fresh' (Kd.R_lt (by (with_reducible repeat (first | apply Ra | apply Rn | apply Rd)); exact HO_3.out)) k_ hk)); (case aO => exact (by (with_reducible repeat (first | apply Ra | apply Rn | apply Rd)); exact HO118.out)); (case aS => exact (below_size (by repeat (first | (with_reducible first | exact HB.out | apply lA | apply lN | apply lD) | exact HB.out)))); (case aL => have := LMc21.out; omega); intro v124 w28 ho hb hg hat; rw [← Ny123.out] at ho; replace HB := am (hb); replace HR111 := am ((show Kd.C Kd.string w28 (some ad103) y108.length y108 from by rw [Ny108.out]; exact Kd.C_take (m := (x5_2 : Int).toNat) ((Kd.R_reads' (Kd.R_after (ok := (fun _ => True)) (by (with_reducible repeat (first | apply Ra | apply Rn | apply Rd)); exact HO_3.out) hg hat)).2.2) KL24.out)); replace HR122 := am ((show Kd.C Kd.string w28 A27 y119.length y119 from by rw [Ny119.out, KA27.out]; exact Kd.C_drop (m := (x5_2 : Int).toNat) (c := co7) ((Kd.R_reads' (Kd.R_after (ok := (fun _ => True)) (by (with_reducible repeat (first | apply Ra | apply Rn | apply Rd)); exact HO_3.out) hg hat)).2.2) KL27.out ((Kd.R_reads' (Kd.R_after (ok := (fun _ => True)) (by (with_reducible repeat (first | apply Ra | apply Rn | apply Rd)); exact HO_3.out) hg hat)).2.1))); replace HO_3 := am (Kd.R_after (ok := (fun _ => True)) (by (with_reducible repeat (first | apply Ra | apply Rn | apply Rd)); exact HO_3.out) hg hat); have HO125 := am (ho); clear HO118; clear ho hb hg hat)))
                   go_roundg k2
                   case measure => have := HK1.out; have := HK2.out; omega
                   case rel => exact ⟨(y123), (wrap64 (x4_1 + 1)), (by first | rfl | (simp; done) | (simp [*]; done)), H', ⟨by have := HK1.out; have := HK2.out; omega⟩, ⟨by (with_reducible repeat (first | apply Ra | apply Rn | apply Rd)); exact Kd.R_mono HO125.out (fun _ hk => trivial)⟩, ⟨by repeat (first | (with_reducible first | exact HB.out | apply lA | apply lN | apply lD) | exact HB.out)⟩⟩
                  ·rw [if_neg c21] at H
                   exact absurd H (by simp)
                 ·rw [if_neg c18] at H
                  exact absurd H (by simp)
                ·rw [if_neg c17] at H
                 exact absurd H (by simp)
               ·rw [if_neg c16] at H
                exact absurd H (by simp)
              ·rw [if_neg c15] at H
               exact absurd H (by simp)
            ·rw [if_neg c13] at H
             exact absurd H (by simp)
           ·rw [if_neg c12] at H
            exact absurd H (by simp)
          ·rw [if_neg c11] at H
           exact absurd H (by simp)
         ·rw [if_neg c10] at H
          exact absurd H (by simp)
        ·rw [if_neg c8] at H
         have c8b0 : decide (0 < x5_2) = false := decide_eq_false c8
         clear c8
         obtain ⟨y126, hy126⟩ : ∃ y_ : List ByteArray, y_ = (([] : List ByteArray)) := ⟨_, rfl⟩
         replace H : (if 0 ≤ x5_2 then (if x5_2 ≤ (x3_1.length : Int) then ((some (x3_1.take (x5_2 : Int).toNat : List ByteArray)).bind fun y129 => (if y126.length + y129.length < 8796093022208 then ((some (y126 ++ y129 : List ByteArray)).bind fun y133 => (if 0 ≤ x4_1 then (if x4_1 < (l0.length : Int) then (if y133.length < 8796093022208 then ((some (y133 ++ [rdOf ByteArray.empty l0 x4_1] : List ByteArray)).bind fun y137 => ((some (x3_1.drop (x5_2 : Int).toNat : List ByteArray)).bind fun y140 => (if y137.length + y140.length < 8796093022208 then (lambrequinref09_Sorted.l0 k2 l0 (y137 ++ y140) (wrap64 (x4_1 + 1))) else (none)))) else (none)) else (none)) else (none))) else (none))) else (none)) else (none)) = some r := by first | (rw [hy126]; with_reducible exact H) | (have H2_ := (Option.bind_some _ _).symm.trans H; rw [hy126]; with_reducible exact H2_) | (have H2_ := (Option.bind_some _ _).symm.trans H; with_reducible exact H2_) | with_reducible exact H | (rw [hy126]; exact H) | exact H
         have Ny126 := am hy126
         clear hy126
         by_cases c29 : 0 ≤ x5_2
         ·rw [if_pos c29] at H
          have c29b0 := eq_true c29
          have c29b1 : decide (0 ≤ x5_2) = true := decide_eq_true c29
          clear c29
          by_cases c30 : x5_2 ≤ (x3_1.length : Int)
          ·rw [if_pos c30] at H
           have c30b0 := eq_true c30
           have c30b1 : decide (x5_2 ≤ (x3_1.length : Int)) = true := decide_eq_true c30
           clear c30
           obtain ⟨y129, hy129⟩ : ∃ y_ : List ByteArray, y_ = (x3_1.take (x5_2 : Int).toNat) := ⟨_, rfl⟩
           replace H : (if y126.length + y129.length < 8796093022208 then ((some (y126 ++ y129 : List ByteArray)).bind fun y133 => (if 0 ≤ x4_1 then (if x4_1 < (l0.length : Int) then (if y133.length < 8796093022208 then ((some (y133 ++ [rdOf ByteArray.empty l0 x4_1] : List ByteArray)).bind fun y137 => ((some (x3_1.drop (x5_2 : Int).toNat : List ByteArray)).bind fun y140 => (if y137.length + y140.length < 8796093022208 then (lambrequinref09_Sorted.l0 k2 l0 (y137 ++ y140) (wrap64 (x4_1 + 1))) else (none)))) else (none)) else (none)) else (none))) else (none)) = some r := by first | (rw [hy129]; with_reducible exact H) | (have H2_ := (Option.bind_some _ _).symm.trans H; rw [hy129]; with_reducible exact H2_) | (have H2_ := (Option.bind_some _ _).symm.trans H; with_reducible exact H2_) | with_reducible exact H | (rw [hy129]; exact H) | exact H
           have Ny129 := am hy129
           clear hy129
           by_cases c31 : y126.length + y129.length < 8796093022208
           ·rw [if_pos c31] at H
            have LMc31 := am c31
            clear c31
            obtain ⟨y133, hy133⟩ : ∃ y_ : List ByteArray, y_ = (y126 ++ y129) := ⟨_, rfl⟩
            replace H : (if 0 ≤ x4_1 then (if x4_1 < (l0.length : Int) then (if y133.length < 8796093022208 then ((some (y133 ++ [rdOf ByteArray.empty l0 x4_1] : List ByteArray)).bind fun y137 => ((some (x3_1.drop (x5_2 : Int).toNat : List ByteArray)).bind fun y140 => (if y137.length + y140.length < 8796093022208 then (lambrequinref09_Sorted.l0 k2 l0 (y137 ++ y140) (wrap64 (x4_1 + 1))) else (none)))) else (none)) else (none)) else (none)) = some r := by first | (rw [hy133]; with_reducible exact H) | (have H2_ := (Option.bind_some _ _).symm.trans H; rw [hy133]; with_reducible exact H2_) | (have H2_ := (Option.bind_some _ _).symm.trans H; with_reducible exact H2_) | with_reducible exact H | (rw [hy133]; exact H) | exact H
            have Ny133 := am hy133
            clear hy133
            by_cases c32 : 0 ≤ x4_1
            ·rw [if_pos c32] at H
             have c32b0 : decide (0 ≤ x4_1) = true := decide_eq_true c32
             clear c32
             by_cases c33 : x4_1 < (l0.length : Int)
             ·rw [if_pos c33] at H
              have c33b0 : decide (x4_1 < (l0.length : Int)) = true := decide_eq_true c33
              clear c33
              by_cases c34 : y133.length < 8796093022208
              ·rw [if_pos c34] at H
               have LMc34 := am c34
               clear c34
               obtain ⟨y137, hy137⟩ : ∃ y_ : List ByteArray, y_ = (y133 ++ [rdOf ByteArray.empty l0 x4_1]) := ⟨_, rfl⟩
               replace H : ((some (x3_1.drop (x5_2 : Int).toNat : List ByteArray)).bind fun y140 => (if y137.length + y140.length < 8796093022208 then (lambrequinref09_Sorted.l0 k2 l0 (y137 ++ y140) (wrap64 (x4_1 + 1))) else (none))) = some r := by first | (rw [hy137]; with_reducible exact H) | (have H2_ := (Option.bind_some _ _).symm.trans H; rw [hy137]; with_reducible exact H2_) | (have H2_ := (Option.bind_some _ _).symm.trans H; with_reducible exact H2_) | with_reducible exact H | (rw [hy137]; exact H) | exact H
               have Ny137 := am hy137
               clear hy137
               have c35b0 := eq_true (of_decide_eq_true (by first | (with_reducible assumption) | assumption) : 0 ≤ x5_2)
               have c36b0 := eq_true (of_decide_eq_true (by first | (with_reducible assumption) | assumption) : x5_2 ≤ (x3_1.length : Int))
               obtain ⟨y140, hy140⟩ : ∃ y_ : List ByteArray, y_ = (x3_1.drop (x5_2 : Int).toNat) := ⟨_, rfl⟩
               replace H : (if y137.length + y140.length < 8796093022208 then (lambrequinref09_Sorted.l0 k2 l0 (y137 ++ y140) (wrap64 (x4_1 + 1))) else (none)) = some r := by first | (rw [hy140]; with_reducible exact H) | (have H2_ := (Option.bind_some _ _).symm.trans H; rw [hy140]; with_reducible exact H2_) | (have H2_ := (Option.bind_some _ _).symm.trans H; with_reducible exact H2_) | with_reducible exact H | (rw [hy140]; exact H) | exact H
               have Ny140 := am hy140
               clear hy140
               by_cases c37 : y137.length + y140.length < 8796093022208
               ·rw [if_pos c37] at H
                have LMc37 := am c37
                clear c37
                obtain ⟨y144, hy144⟩ : ∃ y_ : List ByteArray, y_ = (y137 ++ y140) := ⟨_, rfl⟩
                replace H : (lambrequinref09_Sorted.l0 k2 l0 y144 (wrap64 (x4_1 + 1))) = some r := by first | (rw [hy144]; with_reducible exact H) | (have H2_ := (Option.bind_some _ _).symm.trans H; rw [hy144]; with_reducible exact H2_) | (have H2_ := (Option.bind_some _ _).symm.trans H; with_reducible exact H2_) | with_reducible exact H | (rw [hy144]; exact H) | exact H
                have Ny144 := am hy144
                clear hy144
                have H' := am H
                clear H
                go_wp2_with (first | ((with_reducible refine gate_dst (N := 37) rfl ?_); refine Kd.R_lit Kd.string _ 9 ?hg (N := 37) ?hd (xs := ([] : List ByteArray)) (inner := []) (ok := fun _ => True) (okp := fun _ => True) ?hr ?hp (fun _ hk => hk) trivial (Below.refl _ _) (Nat.le_refl _) (by simp) ?_; (case hd => rfl); (case hg => rfl); (case hr => first | (go_simp; done) | (go_simp; rfl)); (case hp => exact (Reps.none _ _)); intro v127 w38 ho39 hb hg_ hnew_; clear hg_ hnew_; (first | rw [← Ny126.out] at ho39 | (simp only [Int.reduceToNat] at ho39; rw [← Ny126.out] at ho39)); have HO128 := am (Kd.R_lower (Kd.R_new' ho39 (Kd.R_lt (by (with_reducible repeat (first | apply Ra | apply Rn | apply Rd)); exact HO_3.out))) (below_size (by repeat (first | (with_reducible first | exact HB.out | apply lA | apply lN | apply lD) | exact HB.out)))); replace HO_3 := am (Kd.R_elder' (by (with_reducible repeat (first | apply Ra | apply Rn | apply Rd)); exact HO_3.out) (Kd.R_base ho39) hb); replace HB := am (below_step (by repeat (first | (with_reducible first | exact HB.out | apply lA | apply lN | apply lD) | exact HB.out)) hb); clear hb ho39; have q40 : (x5_2 : Int) ≤ ((x3_1.length : Int) : Int) := of_decide_eq_true (by first | (with_reducible assumption) | assumption); obtain ⟨i040, hi040, _, hsz40, _⟩ := info_parts info9; have hroom40 : x3_1.length ≤ co7 := (Kd.R_reads' HO_3.out).2.1; have hC40 : Kd.C Kd.string _ Ao7 x3_1.length x3_1 := (Kd.R_reads' HO_3.out).2.2; have hcut40 := cut_to (P := Try.prog) 32 9 .i64 Try.underlying32 hi040 Ao7 x3_1.length co7 x5_2 (of_decide_eq_true (by first | (with_reducible assumption) | assumption)) q40 hroom40; have hr40 := Kd.C_take (m := (x5_2 : Int).toNat) hC40 (by omega); have hy40 : y129.length = (x5_2 : Int).toNat := (by rw [Ny129.out, List.length_take]; omega); rw [← Ny129.out] at hr40; rw [← hy40] at hcut40; have HR132 := am hr40; have HC132 := am (show y129.length ≤ co7 from by omega); clear hr40 hC40 hroom40 hi040 hsz40; have KY40 := am hy40; clear hy40; have KL40 := am (show (x5_2 : Int).toNat ≤ x3_1.length from by omega); replace q40 := eq_true q40) | ((with_reducible refine gate_builtin (b := .append) (xs := #[.tmp 37, .tmp 40]) rfl ?_); at_builtin; refine Kd.R_append_rows Kd.string (w0 := w) w.heap.size rfl (.tmp 37) (.tmp 40) 32 9 (.string ⟨#[]⟩) 16 rfl Try.underlying32 info9 rfl (by decide) (by omega) v127 y126 y129 _ _ _ (fun k_ => some k_ ≠ (.slice Ao7 x3_1.length co7 : Value).ownBlock) (fun _ => False) rfl rfl ?aO ?aR (fun _ _ h => h) (fun _ h => h.elim) ?aF ?aB ?aS ?aL ?_; (case aR => repeat (first | exact (by repeat (first | (with_reducible exact HR132.out) | (with_reducible refine Kd.C_alloc ?_ _) | (with_reducible refine Kd.C_drewN ?_ _) | (with_reducible refine Kd.C_drew ?_) | exact HR132.out)) | (with_reducible refine Kd.C_alloc ?_ _) | (with_reducible refine Kd.C_drewN ?_ _) | (with_reducible refine Kd.C_drew ?_))); (case aB => exact (by repeat (first | (with_reducible first | exact HB.out | apply lA | apply lN | apply lD) | exact HB.out))); (case aF => exact (fun k_ hk => Kd.fresh' (Kd.R_lt (by (with_reducible repeat (first | apply Ra | apply Rn | apply Rd)); exact HO_3.out)) k_ hk)); (case aO => exact (by (with_reducible repeat (first | apply Ra | apply Rn | apply Rd)); exact Kd.R_mono HO128.out (fun _ hk => hk.2))); (case aS => exact (below_size (by repeat (first | (with_reducible first | exact HB.out | apply lA | apply lN | apply lD) | exact HB.out)))); (case aL => have := LMc31.out; omega); intro v134 w41 ho hb hg hat; rw [← Ny133.out] at ho; replace HB := am (hb); replace HR132 := am ((show Kd.C Kd.string w41 Ao7 y129.length y129 from by rw [Ny129.out]; exact Kd.C_take (m := (x5_2 : Int).toNat) ((Kd.R_reads' (Kd.R_after (ok := (fun _ => True)) (by (with_reducible repeat (first | apply Ra | apply Rn | apply Rd)); exact HO_3.out) hg hat)).2.2) KL40.out)); replace HO_3 := am (Kd.R_after (ok := (fun _ => True)) (by (with_reducible repeat (first | apply Ra | apply Rn | apply Rd)); exact HO_3.out) hg hat); have HO135 := am (ho); clear HO128; clear ho hb hg hat; have p136 : 0 ≤ (x4_1 : Int) := of_decide_eq_true (by first | (with_reducible assumption) | assumption); have q136 : x4_1 < (l0.length : Int) := of_decide_eq_true (by first | (with_reducible assumption) | assumption); obtain ⟨ad136, e136, hx136_0⟩ := Kd.at_string HR0.out x4_1 p136 q136; obtain rfl : ad101 = ad136 := (by injection e136); replace hx136_0 := (HB.out.cell (blt_ hx136_0)).trans hx136_0; replace p136 := eq_true p136; replace q136 := eq_true q136) | ((with_reducible refine gate_builtin (b := .append) (xs := #[.tmp 42, .tmp 47]) rfl ?_); at_builtin; refine Kd.R_append Kd.string (w0 := w) w.heap.size rfl (.tmp 42) (.tmp 47) 32 9 (.string ⟨#[]⟩) 16 rfl Try.underlying32 info9 rfl (by decide) (by omega) v134 y133 (rdOf ByteArray.empty l0 x4_1) [.string (rdOf ByteArray.empty l0 x4_1)] (fun k_ => some k_ ≠ (.slice Ao7 x3_1.length co7 : Value).ownBlock) (fun _ => False) rfl rfl ?aP (fun _ hk => hk.elim) ?aF ?aO ?aB ?aS ?aL ?_; (case aP => exact rfl); (case aB => exact (by repeat (first | (with_reducible first | exact HB.out | apply lA | apply lN | apply lD) | exact HB.out))); (case aF => exact (fun k_ hk => Kd.fresh' (Kd.R_lt (by (with_reducible repeat (first | apply Ra | apply Rn | apply Rd)); exact HO_3.out)) k_ hk)); (case aO => exact (by (with_reducible repeat (first | apply Ra | apply Rn | apply Rd)); exact HO135.out)); (case aS => exact (below_size (by repeat (first | (with_reducible first | exact HB.out | apply lA | apply lN | apply lD) | exact HB.out)))); (case aL => have := LMc34.out; omega); intro v138 w42 ho hb hg hat; rw [← Ny137.out] at ho; replace HB := am (hb); replace HR132 := am ((show Kd.C Kd.string w42 Ao7 y129.length y129 from by rw [Ny129.out]; exact Kd.C_take (m := (x5_2 : Int).toNat) ((Kd.R_reads' (Kd.R_after (ok := (fun _ => True)) (by (with_reducible repeat (first | apply Ra | apply Rn | apply Rd)); exact HO_3.out) hg hat)).2.2) KL40.out)); replace HO_3 := am (Kd.R_after (ok := (fun _ => True)) (by (with_reducible repeat (first | apply Ra | apply Rn | apply Rd)); exact HO_3.out) hg hat); have HO139 := am (ho); clear HO135; clear ho hb hg hat; have q43 : (x5_2 : Int) ≤ ((x3_1.length : Int) : Int) := of_decide_eq_true (by first | (with_reducible assumption) | assumption); obtain ⟨i043, hi043, _, hsz43, _⟩ := info_parts info9; have hroom43 : x3_1.length ≤ co7 := (Kd.R_reads' HO_3.out).2.1; have hC43 : Kd.C Kd.string _ Ao7 x3_1.length x3_1 := (Kd.R_reads' HO_3.out).2.2; have q043 : (0 : Int) ≤ (x5_2 : Int) := of_decide_eq_true (by first | (with_reducible assumption) | assumption); have hcut43 := cut_from (P := Try.prog) 32 9 .i64 Try.underlying32 hi043 1 hsz43 Ao7 x3_1.length co7 x5_2 q043 q43; have hr43 := Kd.C_drop (m := (x5_2 : Int).toNat) (c := co7) hC43 (by omega) hroom43; obtain ⟨A43, hA43⟩ : ∃ A1, A1 = (if co7 = (x5_2 : Int).toNat then Ao7 else (Ao7 : Option Addr).map (·.add ((x5_2 : Int).toNat * 1))) := ⟨_, rfl⟩; obtain ⟨c43, hc43⟩ : ∃ c1, c1 = co7 - (x5_2 : Int).toNat := ⟨_, rfl⟩; have hy43 : y140.length = x3_1.length - (x5_2 : Int).toNat := (by rw [Ny140.out, List.length_drop] <;> omega); rw [show (x3_1).drop (x5_2 : Int).toNat = y140 from Ny140.out.symm] at hr43; replace hr43 : Kd.C Kd.string _ A43 y140.length y140 := (by rw [hA43]; exact hr43); rw [← hy43, ← hA43, ← hc43] at hcut43; have HR143 := am hr43; have HC143 := am (show y140.length ≤ c43 from by rw [hy43, hc43]; exact Nat.sub_le_sub_right hroom43 _); clear hr43 hC43 hroom43 hi043 hsz43 hc43; have KY43 := am hy43; have KA43 := am hA43; clear hy43 hA43; have KL43 := am (show (x5_2 : Int).toNat ≤ x3_1.length from by omega); replace q43 := eq_true q43) | ((with_reducible refine gate_builtin (b := .append) (xs := #[.tmp 49, .tmp 52]) rfl ?_); at_builtin; refine Kd.R_append_rows Kd.string (w0 := w) w.heap.size rfl (.tmp 49) (.tmp 52) 32 9 (.string ⟨#[]⟩) 16 rfl Try.underlying32 info9 rfl (by decide) (by omega) v138 y137 y140 _ _ _ (fun k_ => some k_ ≠ (.slice Ao7 x3_1.length co7 : Value).ownBlock) (fun _ => False) rfl rfl ?aO ?aR (fun _ _ h => h) (fun _ h => h.elim) ?aF ?aB ?aS ?aL ?_; (case aR => repeat (first | exact (by repeat (first | (with_reducible exact HR143.out) | (with_reducible refine Kd.C_alloc ?_ _) | (with_reducible refine Kd.C_drewN ?_ _) | (with_reducible refine Kd.C_drew ?_) | exact HR143.out)) | (with_reducible refine Kd.C_alloc ?_ _) | (with_reducible refine Kd.C_drewN ?_ _) | (with_reducible refine Kd.C_drew ?_))); (case aB => exact (by repeat (first | (with_reducible first | exact HB.out | apply lA | apply lN | apply lD) | exact HB.out))); (case aF => exact (fun k_ hk => Kd.fresh' (Kd.R_lt (by (with_reducible repeat (first | apply Ra | apply Rn | apply Rd)); exact HO_3.out)) k_ hk)); (case aO => exact (by (with_reducible repeat (first | apply Ra | apply Rn | apply Rd)); exact HO139.out)); (case aS => exact (below_size (by repeat (first | (with_reducible first | exact HB.out | apply lA | apply lN | apply lD) | exact HB.out)))); (case aL => have := LMc37.out; omega); intro v145 w44 ho hb hg hat; rw [← Ny144.out] at ho; replace HB := am (hb); replace HR132 := am ((show Kd.C Kd.string w44 Ao7 y129.length y129 from by rw [Ny129.out]; exact Kd.C_take (m := (x5_2 : Int).toNat) ((Kd.R_reads' (Kd.R_after (ok := (fun _ => True)) (by (with_reducible repeat (first | apply Ra | apply Rn | apply Rd)); exact HO_3.out) hg hat)).2.2) KL40.out)); replace HR143 := am ((show Kd.C Kd.string w44 A43 y140.length y140 from by rw [Ny140.out, KA43.out]; exact Kd.C_drop (m := (x5_2 : Int).toNat) (c := co7) ((Kd.R_reads' (Kd.R_after (ok := (fun _ => True)) (by (with_reducible repeat (first | apply Ra | apply Rn | apply Rd)); exact HO_3.out) hg hat)).2.2) KL43.out ((Kd.R_reads' (Kd.R_after (ok := (fun _ => True)) (by (with_reducible repeat (first | apply Ra | apply Rn | apply Rd)); exact HO_3.out) hg hat)).2.1))); replace HO_3 := am (Kd.R_after (ok := (fun _ => True)) (by (with_reducible repeat (first | apply Ra | apply Rn | apply Rd)); exact HO_3.out) hg hat); have HO146 := am (ho); clear HO139; clear ho hb hg hat))
                repeat (go_quiet (first | ((with_reducible refine gate_dst (N := 37) rfl ?_); refine Kd.R_lit Kd.string _ 9 ?hg (N := 37) ?hd (xs := ([] : List ByteArray)) (inner := []) (ok := fun _ => True) (okp := fun _ => True) ?hr ?hp (fun _ hk => hk) trivial (Below.refl _ _) (Nat.le_refl _) (by simp) ?_; (case hd => rfl); (case hg => rfl); (case hr => first | (go_simp; done) | (go_simp; rfl)); (case hp => exact (Reps.none _ _)); intro v127 w38 ho39 hb hg_ hnew_; clear hg_ hnew_; (first | rw [← Ny126.out] at ho39 | (simp only [Int.reduceToNat] at ho39; rw [← Ny126.out] at ho39)); have HO128 := am (Kd.R_lower (Kd.R_new' ho39 (Kd.R_lt (by (with_reducible repeat (first | apply Ra | apply Rn | apply Rd)); exact HO_3.out))) (below_size (by repeat (first | (with_reducible first | exact HB.out | apply lA | apply lN | apply lD) | exact HB.out)))); replace HO_3 := am (Kd.R_elder' (by (with_reducible repeat (first | apply Ra | apply Rn | apply Rd)); exact HO_3.out) (Kd.R_base ho39) hb); replace HB := am (below_step (by repeat (first | (with_reducible first | exact HB.out | apply lA | apply lN | apply lD) | exact HB.out)) hb); clear hb ho39; have q40 : (x5_2 : Int) ≤ ((x3_1.length : Int) : Int) := of_decide_eq_true (by first | (with_reducible assumption) | assumption); obtain ⟨i040, hi040, _, hsz40, _⟩ := info_parts info9; have hroom40 : x3_1.length ≤ co7 := (Kd.R_reads' HO_3.out).2.1; have hC40 : Kd.C Kd.string _ Ao7 x3_1.length x3_1 := (Kd.R_reads' HO_3.out).2.2; have hcut40 := cut_to (P := Try.prog) 32 9 .i64 Try.underlying32 hi040 Ao7 x3_1.length co7 x5_2 (of_decide_eq_true (by first | (with_reducible assumption) | assumption)) q40 hroom40; have hr40 := Kd.C_take (m := (x5_2 : Int).toNat) hC40 (by omega); have hy40 : y129.length = (x5_2 : Int).toNat := (by rw [Ny129.out, List.length_take]; omega); rw [← Ny129.out] at hr40; rw [← hy40] at hcut40; have HR132 := am hr40; have HC132 := am (show y129.length ≤ co7 from by omega); clear hr40 hC40 hroom40 hi040 hsz40; have KY40 := am hy40; clear hy40; have KL40 := am (show (x5_2 : Int).toNat ≤ x3_1.length from by omega); replace q40 := eq_true q40) | ((with_reducible refine gate_builtin (b := .append) (xs := #[.tmp 37, .tmp 40]) rfl ?_); at_builtin; refine Kd.R_append_rows Kd.string (w0 := w) w.heap.size rfl (.tmp 37) (.tmp 40) 32 9 (.string ⟨#[]⟩) 16 rfl Try.underlying32 info9 rfl (by decide) (by omega) v127 y126 y129 _ _ _ (fun k_ => some k_ ≠ (.slice Ao7 x3_1.length co7 : Value).ownBlock) (fun _ => False) rfl rfl ?aO ?aR (fun _ _ h => h) (fun _ h => h.elim) ?aF ?aB ?aS ?aL ?_; (case aR => repeat (first | exact (by repeat (first | (with_reducible exact HR132.out) | (with_reducible refine Kd.C_alloc ?_ _) | (with_reducible refine Kd.C_drewN ?_ _) | (with_reducible refine Kd.C_drew ?_) | exact HR132.out)) | (with_reducible refine Kd.C_alloc ?_ _) | (with_reducible refine Kd.C_drewN ?_ _) | (with_reducible refine Kd.C_drew ?_))); (case aB => exact (by repeat (first | (with_reducible first | exact HB.out | apply lA | apply lN | apply lD) | exact HB.out))); (case aF => exact (fun k_ hk => Kd.fresh' (Kd.R_lt (by (with_reducible repeat (first | apply Ra | apply Rn | apply Rd)); exact HO_3.out)) k_ hk)); (case aO => exact (by (with_reducible repeat (first | apply Ra | apply Rn | apply Rd)); exact Kd.R_mono HO128.out (fun _ hk => hk.2))); (case aS => exact (below_size (by repeat (first | (with_reducible first | exact HB.out | apply lA | apply lN | apply lD) | exact HB.out)))); (case aL => have := LMc31.out; omega); intro v134 w41 ho hb hg hat; rw [← Ny133.out] at ho; replace HB := am (hb); replace HR132 := am ((show Kd.C Kd.string w41 Ao7 y129.length y129 from by rw [Ny129.out]; exact Kd.C_take (m := (x5_2 : Int).toNat) ((Kd.R_reads' (Kd.R_after (ok := (fun _ => True)) (by (with_reducible repeat (first | apply Ra | apply Rn | apply Rd)); exact HO_3.out) hg hat)).2.2) KL40.out)); replace HO_3 := am (Kd.R_after (ok := (fun _ => True)) (by (with_reducible repeat (first | apply Ra | apply Rn | apply Rd)); exact HO_3.out) hg hat); have HO135 := am (ho); clear HO128; clear ho hb hg hat; have p136 : 0 ≤ (x4_1 : Int) := of_decide_eq_true (by first | (with_reducible assumption) | assumption); have q136 : x4_1 < (l0.length : Int) := of_decide_eq_true (by first | (with_reducible assumption) | assumption); obtain ⟨ad136, e136, hx136_0⟩ := Kd.at_string HR0.out x4_1 p136 q136; obtain rfl : ad101 = ad136 := (by injection e136); replace hx136_0 := (HB.out.cell (blt_ hx136_0)).trans hx136_0; replace p136 := eq_true p136; replace q136 := eq_true q136) | ((with_reducible refine gate_builtin (b := .append) (xs := #[.tmp 42, .tmp 47]) rfl ?_); at_builtin; refine Kd.R_append Kd.string (w0 := w) w.heap.size rfl (.tmp 42) (.tmp 47) 32 9 (.string ⟨#[]⟩) 16 rfl Try.underlying32 info9 rfl (by decide) (by omega) v134 y133 (rdOf ByteArray.empty l0 x4_1) [.string (rdOf ByteArray.empty l0 x4_1)] (fun k_ => some k_ ≠ (.slice Ao7 x3_1.length co7 : Value).ownBlock) (fun _ => False) rfl rfl ?aP (fun _ hk => hk.elim) ?aF ?aO ?aB ?aS ?aL ?_; (case aP => exact rfl); (case aB => exact (by repeat (first | (with_reducible first | exact HB.out | apply lA | apply lN | apply lD) | exact HB.out))); (case aF => exact (fun k_ hk => Kd.fresh' (Kd.R_lt (by (with_reducible repeat (first | apply Ra | apply Rn | apply Rd)); exact HO_3.out)) k_ hk)); (case aO => exact (by (with_reducible repeat (first | apply Ra | apply Rn | apply Rd)); exact HO135.out)); (case aS => exact (below_size (by repeat (first | (with_reducible first | exact HB.out | apply lA | apply lN | apply lD) | exact HB.out)))); (case aL => have := LMc34.out; omega); intro v138 w42 ho hb hg hat; rw [← Ny137.out] at ho; replace HB := am (hb); replace HR132 := am ((show Kd.C Kd.string w42 Ao7 y129.length y129 from by rw [Ny129.out]; exact Kd.C_take (m := (x5_2 : Int).toNat) ((Kd.R_reads' (Kd.R_after (ok := (fun _ => True)) (by (with_reducible repeat (first | apply Ra | apply Rn | apply Rd)); exact HO_3.out) hg hat)).2.2) KL40.out)); replace HO_3 := am (Kd.R_after (ok := (fun _ => True)) (by (with_reducible repeat (first | apply Ra | apply Rn | apply Rd)); exact HO_3.out) hg hat); have HO139 := am (ho); clear HO135; clear ho hb hg hat; have q43 : (x5_2 : Int) ≤ ((x3_1.length : Int) : Int) := of_decide_eq_true (by first | (with_reducible assumption) | assumption); obtain ⟨i043, hi043, _, hsz43, _⟩ := info_parts info9; have hroom43 : x3_1.length ≤ co7 := (Kd.R_reads' HO_3.out).2.1; have hC43 : Kd.C Kd.string _ Ao7 x3_1.length x3_1 := (Kd.R_reads' HO_3.out).2.2; have q043 : (0 : Int) ≤ (x5_2 : Int) := of_decide_eq_true (by first | (with_reducible assumption) | assumption); have hcut43 := cut_from (P := Try.prog) 32 9 .i64 Try.underlying32 hi043 1 hsz43 Ao7 x3_1.length co7 x5_2 q043 q43; have hr43 := Kd.C_drop (m := (x5_2 : Int).toNat) (c := co7) hC43 (by omega) hroom43; obtain ⟨A43, hA43⟩ : ∃ A1, A1 = (if co7 = (x5_2 : Int).toNat then Ao7 else (Ao7 : Option Addr).map (·.add ((x5_2 : Int).toNat * 1))) := ⟨_, rfl⟩; obtain ⟨c43, hc43⟩ : ∃ c1, c1 = co7 - (x5_2 : Int).toNat := ⟨_, rfl⟩; have hy43 : y140.length = x3_1.length - (x5_2 : Int).toNat := (by rw [Ny140.out, List.length_drop] <;> omega); rw [show (x3_1).drop (x5_2 : Int).toNat = y140 from Ny140.out.symm] at hr43; replace hr43 : Kd.C Kd.string _ A43 y140.length y140 := (by rw [hA43]; exact hr43); rw [← hy43, ← hA43, ← hc43] at hcut43; have HR143 := am hr43; have HC143 := am (show y140.length ≤ c43 from by rw [hy43, hc43]; exact Nat.sub_le_sub_right hroom43 _); clear hr43 hC43 hroom43 hi043 hsz43 hc43; have KY43 := am hy43; have KA43 := am hA43; clear hy43 hA43; have KL43 := am (show (x5_2 : Int).toNat ≤ x3_1.length from by omega); replace q43 := eq_true q43) | ((with_reducible refine gate_builtin (b := .append) (xs := #[.tmp 49, .tmp 52]) rfl ?_); at_builtin; refine Kd.R_append_rows Kd.string (w0 := w) w.heap.size rfl (.tmp 49) (.tmp 52) 32 9 (.string ⟨#[]⟩) 16 rfl Try.underlying32 info9 rfl (by decide) (by omega) v138 y137 y140 _ _ _ (fun k_ => some k_ ≠ (.slice Ao7 x3_1.length co7 : Value).ownBlock) (fun _ => False) rfl rfl ?aO ?aR (fun _ _ h => h) (fun _ h => h.elim) ?aF ?aB ?aS ?aL ?_; (case aR => repeat (first | exact (by repeat (first | (with_reducible exact HR143.out) | (with_reducible refine Kd.C_alloc ?_ _) | (with_reducible refine Kd.C_drewN ?_ _) | (with_reducible refine Kd.C_drew ?_) | exact HR143.out)) | (with_reducible refine Kd.C_alloc ?_ _) | (with_reducible refine Kd.C_drewN ?_ _) | (with_reducible refine Kd.C_drew ?_))); (case aB => exact (by repeat (first | (with_reducible first | exact HB.out | apply lA | apply lN | apply lD) | exact HB.out))); (case aF => exact (fun k_ hk => Kd.fresh' (Kd.R_lt (by (with_reducible repeat (first | apply Ra | apply Rn | apply Rd)); exact HO_3.out)) k_ hk)); (case aO => exact (by (with_reducible repeat (first | apply Ra | apply Rn | apply Rd)); exact HO139.out)); (case aS => exact (below_size (by repeat (first | (with_reducible first | exact HB.out | apply lA | apply lN | apply lD) | exact HB.out)))); (case aL => have := LMc37.out; omega); intro v145 w44 ho hb hg hat; rw [← Ny144.out] at ho; replace HB := am (hb); replace HR132 := am ((show Kd.C Kd.string w44 Ao7 y129.length y129 from by rw [Ny129.out]; exact Kd.C_take (m := (x5_2 : Int).toNat) ((Kd.R_reads' (Kd.R_after (ok := (fun _ => True)) (by (with_reducible repeat (first | apply Ra | apply Rn | apply Rd)); exact HO_3.out) hg hat)).2.2) KL40.out)); replace HR143 := am ((show Kd.C Kd.string w44 A43 y140.length y140 from by rw [Ny140.out, KA43.out]; exact Kd.C_drop (m := (x5_2 : Int).toNat) (c := co7) ((Kd.R_reads' (Kd.R_after (ok := (fun _ => True)) (by (with_reducible repeat (first | apply Ra | apply Rn | apply Rd)); exact HO_3.out) hg hat)).2.2) KL43.out ((Kd.R_reads' (Kd.R_after (ok := (fun _ => True)) (by (with_reducible repeat (first | apply Ra | apply Rn | apply Rd)); exact HO_3.out) hg hat)).2.1))); replace HO_3 := am (Kd.R_after (ok := (fun _ => True)) (by (with_reducible repeat (first | apply Ra | apply Rn | apply Rd)); exact HO_3.out) hg hat); have HO146 := am (ho); clear HO139; clear ho hb hg hat)); try go_wp2_with (first | ((with_reducible refine gate_dst (N := 37) rfl ?_); refine Kd.R_lit Kd.string _ 9 ?hg (N := 37) ?hd (xs := ([] : List ByteArray)) (inner := []) (ok := fun _ => True) (okp := fun _ => True) ?hr ?hp (fun _ hk => hk) trivial (Below.refl _ _) (Nat.le_refl _) (by simp) ?_; (case hd => rfl); (case hg => rfl); (case hr => first | (go_simp; done) | (go_simp; rfl)); (case hp => exact (Reps.none _ _)); intro v127 w38 ho39 hb hg_ hnew_; clear hg_ hnew_; (first | rw [← Ny126.out] at ho39 | (simp only [Int.reduceToNat] at ho39; rw [← Ny126.out] at ho39)); have HO128 := am (Kd.R_lower (Kd.R_new' ho39 (Kd.R_lt (by (with_reducible repeat (first | apply Ra | apply Rn | apply Rd)); exact HO_3.out))) (below_size (by repeat (first | (with_reducible first | exact HB.out | apply lA | apply lN | apply lD) | exact HB.out)))); replace HO_3 := am (Kd.R_elder' (by (with_reducible repeat (first | apply Ra | apply Rn | apply Rd)); exact HO_3.out) (Kd.R_base ho39) hb); replace HB := am (below_step (by repeat (first | (with_reducible first | exact HB.out | apply lA | apply lN | apply lD) | exact HB.out)) hb); clear hb ho39; have q40 : (x5_2 : Int) ≤ ((x3_1.length : Int) : Int) := of_decide_eq_true (by first | (with_reducible assumption) | assumption); obtain ⟨i040, hi040, _, hsz40, _⟩ := info_parts info9; have hroom40 : x3_1.length ≤ co7 := (Kd.R_reads' HO_3.out).2.1; have hC40 : Kd.C Kd.string _ Ao7 x3_1.length x3_1 := (Kd.R_reads' HO_3.out).2.2; have hcut40 := cut_to (P := Try.prog) 32 9 .i64 Try.underlying32 hi040 Ao7 x3_1.length co7 x5_2 (of_decide_eq_true (by first | (with_reducible assumption) | assumption)) q40 hroom40; have hr40 := Kd.C_take (m := (x5_2 : Int).toNat) hC40 (by omega); have hy40 : y129.length = (x5_2 : Int).toNat := (by rw [Ny129.out, List.length_take]; omega); rw [← Ny129.out] at hr40; rw [← hy40] at hcut40; have HR132 := am hr40; have HC132 := am (show y129.length ≤ co7 from by omega); clear hr40 hC40 hroom40 hi040 hsz40; have KY40 := am hy40; clear hy40; have KL40 := am (show (x5_2 : Int).toNat ≤ x3_1.length from by omega); replace q40 := eq_true q40) | ((with_reducible refine gate_builtin (b := .append) (xs := #[.tmp 37, .tmp 40]) rfl ?_); at_builtin; refine Kd.R_append_rows Kd.string (w0 := w) w.heap.size rfl (.tmp 37) (.tmp 40) 32 9 (.string ⟨#[]⟩) 16 rfl Try.underlying32 info9 rfl (by decide) (by omega) v127 y126 y129 _ _ _ (fun k_ => some k_ ≠ (.slice Ao7 x3_1.length co7 : Value).ownBlock) (fun _ => False) rfl rfl ?aO ?aR (fun _ _ h => h) (fun _ h => h.elim) ?aF ?aB ?aS ?aL ?_; (case aR => repeat (first | exact (by repeat (first | (with_reducible exact HR132.out) | (with_reducible refine Kd.C_alloc ?_ _) | (with_reducible refine Kd.C_drewN ?_ _) | (with_reducible refine Kd.C_drew ?_) | exact HR132.out)) | (with_reducible refine Kd.C_alloc ?_ _) | (with_reducible refine Kd.C_drewN ?_ _) | (with_reducible refine Kd.C_drew ?_))); (case aB => exact (by repeat (first | (with_reducible first | exact HB.out | apply lA | apply lN | apply lD) | exact HB.out))); (case aF => exact (fun k_ hk => Kd.fresh' (Kd.R_lt (by (with_reducible repeat (first | apply Ra | apply Rn | apply Rd)); exact HO_3.out)) k_ hk)); (case aO => exact (by (with_reducible repeat (first | apply Ra | apply Rn | apply Rd)); exact Kd.R_mono HO128.out (fun _ hk => hk.2))); (case aS => exact (below_size (by repeat (first | (with_reducible first | exact HB.out | apply lA | apply lN | apply lD) | exact HB.out)))); (case aL => have := LMc31.out; omega); intro v134 w41 ho hb hg hat; rw [← Ny133.out] at ho; replace HB := am (hb); replace HR132 := am ((show Kd.C Kd.string w41 Ao7 y129.length y129 from by rw [Ny129.out]; exact Kd.C_take (m := (x5_2 : Int).toNat) ((Kd.R_reads' (Kd.R_after (ok := (fun _ => True)) (by (with_reducible repeat (first | apply Ra | apply Rn | apply Rd)); exact HO_3.out) hg hat)).2.2) KL40.out)); replace HO_3 := am (Kd.R_after (ok := (fun _ => True)) (by (with_reducible repeat (first | apply Ra | apply Rn | apply Rd)); exact HO_3.out) hg hat); have HO135 := am (ho); clear HO128; clear ho hb hg hat; have p136 : 0 ≤ (x4_1 : Int) := of_decide_eq_true (by first | (with_reducible assumption) | assumption); have q136 : x4_1 < (l0.length : Int) := of_decide_eq_true (by first | (with_reducible assumption) | assumption); obtain ⟨ad136, e136, hx136_0⟩ := Kd.at_string HR0.out x4_1 p136 q136; obtain rfl : ad101 = ad136 := (by injection e136); replace hx136_0 := (HB.out.cell (blt_ hx136_0)).trans hx136_0; replace p136 := eq_true p136; replace q136 := eq_true q136) | ((with_reducible refine gate_builtin (b := .append) (xs := #[.tmp 42, .tmp 47]) rfl ?_); at_builtin; refine Kd.R_append Kd.string (w0 := w) w.heap.size rfl (.tmp 42) (.tmp 47) 32 9 (.string ⟨#[]⟩) 16 rfl Try.underlying32 info9 rfl (by decide) (by omega) v134 y133 (rdOf ByteArray.empty l0 x4_1) [.string (rdOf ByteArray.empty l0 x4_1)] (fun k_ => some k_ ≠ (.slice Ao7 x3_1.length co7 : Value).ownBlock) (fun _ => False) rfl rfl ?aP (fun _ hk => hk.elim) ?aF ?aO ?aB ?aS ?aL ?_; (case aP => exact rfl); (case aB => exact (by repeat (first | (with_reducible first | exact HB.out | apply lA | apply lN | apply lD) | exact HB.out))); (case aF => exact (fun k_ hk => Kd.fresh' (Kd.R_lt (by (with_reducible repeat (first | apply Ra | apply Rn | apply Rd)); exact HO_3.out)) k_ hk)); (case aO => exact (by (with_reducible repeat (first | apply Ra | apply Rn | apply Rd)); exact HO135.out)); (case aS => exact (below_size (by repeat (first | (with_reducible first | exact HB.out | apply lA | apply lN | apply lD) | exact HB.out)))); (case aL => have := LMc34.out; omega); intro v138 w42 ho hb hg hat; rw [← Ny137.out] at ho; replace HB := am (hb); replace HR132 := am ((show Kd.C Kd.string w42 Ao7 y129.length y129 from by rw [Ny129.out]; exact Kd.C_take (m := (x5_2 : Int).toNat) ((Kd.R_reads' (Kd.R_after (ok := (fun _ => True)) (by (with_reducible repeat (first | apply Ra | apply Rn | apply Rd)); exact HO_3.out) hg hat)).2.2) KL40.out)); replace HO_3 := am (Kd.R_after (ok := (fun _ => True)) (by (with_reducible repeat (first | apply Ra | apply Rn | apply Rd)); exact HO_3.out) hg hat); have HO139 := am (ho); clear HO135; clear ho hb hg hat; have q43 : (x5_2 : Int) ≤ ((x3_1.length : Int) : Int) := of_decide_eq_true (by first | (with_reducible assumption) | assumption); obtain ⟨i043, hi043, _, hsz43, _⟩ := info_parts info9; have hroom43 : x3_1.length ≤ co7 := (Kd.R_reads' HO_3.out).2.1; have hC43 : Kd.C Kd.string _ Ao7 x3_1.length x3_1 := (Kd.R_reads' HO_3.out).2.2; have q043 : (0 : Int) ≤ (x5_2 : Int) := of_decide_eq_true (by first | (with_reducible assumption) | assumption); have hcut43 := cut_from (P := Try.prog) 32 9 .i64 Try.underlying32 hi043 1 hsz43 Ao7 x3_1.length co7 x5_2 q043 q43; have hr43 := Kd.C_drop (m := (x5_2 : Int).toNat) (c := co7) hC43 (by omega) hroom43; obtain ⟨A43, hA43⟩ : ∃ A1, A1 = (if co7 = (x5_2 : Int).toNat then Ao7 else (Ao7 : Option Addr).map (·.add ((x5_2 : Int).toNat * 1))) := ⟨_, rfl⟩; obtain ⟨c43, hc43⟩ : ∃ c1, c1 = co7 - (x5_2 : Int).toNat := ⟨_, rfl⟩; have hy43 : y140.length = x3_1.length - (x5_2 : Int).toNat := (by rw [Ny140.out, List.length_drop] <;> omega); rw [show (x3_1).drop (x5_2 : Int).toNat = y140 from Ny140.out.symm] at hr43; replace hr43 : Kd.C Kd.string _ A43 y140.length y140 := (by rw [hA43]; exact hr43); rw [← hy43, ← hA43, ← hc43] at hcut43; have HR143 := am hr43; have HC143 := am (show y140.length ≤ c43 from by rw [hy43, hc43]; exact Nat.sub_le_sub_right hroom43 _); clear hr43 hC43 hroom43 hi043 hsz43 hc43; have KY43 := am hy43; have KA43 := am hA43; clear hy43 hA43; have KL43 := am (show (x5_2 : Int).toNat ≤ x3_1.length from by omega); replace q43 := eq_true q43) | ((with_reducible refine gate_builtin (b := .append) (xs := #[.tmp 49, .tmp 52]) rfl ?_); at_builtin; refine Kd.R_append_rows Kd.string (w0 := w) w.heap.size rfl (.tmp 49) (.tmp 52) 32 9 (.string ⟨#[]⟩) 16 rfl Try.underlying32 info9 rfl (by decide) (by omega) v138 y137 y140 _ _ _ (fun k_ => some k_ ≠ (.slice Ao7 x3_1.length co7 : Value).ownBlock) (fun _ => False) rfl rfl ?aO ?aR (fun _ _ h => h) (fun _ h => h.elim) ?aF ?aB ?aS ?aL ?_; (case aR => repeat (first | exact (by repeat (first | (with_reducible exact HR143.out) | (with_reducible refine Kd.C_alloc ?_ _) | (with_reducible refine Kd.C_drewN ?_ _) | (with_reducible refine Kd.C_drew ?_) | exact HR143.out)) | (with_reducible refine Kd.C_alloc ?_ _) | (with_reducible refine Kd.C_drewN ?_ _) | (with_reducible refine Kd.C_drew ?_))); (case aB => exact (by repeat (first | (with_reducible first | exact HB.out | apply lA | apply lN | apply lD) | exact HB.out))); (case aF => exact (fun k_ hk => Kd.fresh' (Kd.R_lt (by (with_reducible repeat (first | apply Ra | apply Rn | apply Rd)); exact HO_3.out)) k_ hk)); (case aO => exact (by (with_reducible repeat (first | apply Ra | apply Rn | apply Rd)); exact HO139.out)); (case aS => exact (below_size (by repeat (first | (with_reducible first | exact HB.out | apply lA | apply lN | apply lD) | exact HB.out)))); (case aL => have := LMc37.out; omega); intro v145 w44 ho hb hg hat; rw [← Ny144.out] at ho; replace HB := am (hb); replace HR132 := am ((show Kd.C Kd.string w44 Ao7 y129.length y129 from by rw [Ny129.out]; exact Kd.C_take (m := (x5_2 : Int).toNat) ((Kd.R_reads' (Kd.R_after (ok := (fun _ => True)) (by (with_reducible repeat (first | apply Ra | apply Rn | apply Rd)); exact HO_3.out) hg hat)).2.2) KL40.out)); replace HR143 := am ((show Kd.C Kd.string w44 A43 y140.length y140 from by rw [Ny140.out, KA43.out]; exact Kd.C_drop (m := (x5_2 : Int).toNat) (c := co7) ((Kd.R_reads' (Kd.R_after (ok := (fun _ => True)) (by (with_reducible repeat (first | apply Ra | apply Rn | apply Rd)); exact HO_3.out) hg hat)).2.2) KL43.out ((Kd.R_reads' (Kd.R_after (ok := (fun _ => True)) (by (with_reducible repeat (first | apply Ra | apply Rn | apply Rd)); exact HO_3.out) hg hat)).2.1))); replace HO_3 := am (Kd.R_after (ok := (fun _ => True)) (by (with_reducible repeat (first | apply Ra | apply Rn | apply Rd)); exact HO_3.out) hg hat); have HO146 := am (ho); clear HO139; clear ho hb hg hat)))
                go_roundg k2
                case measure => have := HK1.out; have := HK2.out; omega
                case rel => exact ⟨(y144), (wrap64 (x4_1 + 1)), (by first | rfl | (simp; done) | (simp [*]; done)), H', ⟨by have := HK1.out; have := HK2.out; omega⟩, ⟨by (with_reducible repeat (first | apply Ra | apply Rn | apply Rd)); exact Kd.R_mono HO146.out (fun _ hk => trivial)⟩, ⟨by repeat (first | (with_reducible first | exact HB.out | apply lA | apply lN | apply lD) | exact HB.out)⟩⟩
               ·rw [if_neg c37] at H
                exact absurd H (by simp)
              ·rw [if_neg c34] at H
               exact absurd H (by simp)
             ·rw [if_neg c33] at H
              exact absurd H (by simp)
            ·rw [if_neg c32] at H
             exact absurd H (by simp)
           ·rw [if_neg c31] at H
            exact absurd H (by simp)
          ·rw [if_neg c30] at H
           exact absurd H (by simp)
         ·rw [if_neg c29] at H
          exact absurd H (by simp)
    ·rw [if_neg c3] at H
     exact absurd H (by simp)
   ·rw [if_neg c2] at H
    have c2b0 : decide (x4_1 < (l0.length : Int)) = false := decide_eq_false c2
    clear c2
    obtain rfl := Option.some.inj H
    go_wp2
    repeat (go_quiet (fail); try go_wp2)
    go_ret
    exact ⟨_, by first | rfl | (simp [errW_none, errW_some] <;> rfl) | (simp [*, errW_none, errW_some] <;> rfl), by (with_reducible repeat (first | apply Ra | apply Rn | apply Rd)); exact HO_3.out, by repeat (first | (with_reducible first | exact HB.out | apply lA | apply lN | apply lD) | exact HB.out)⟩
def lambrequinref20_Leads.j0 : Nat → List (Stmt) → Int → Int → Bool → Option (Bool)
 | 0, _, _, _, _ => none
 | k + 1, x0, x1, x2, x24 => if x24 = true then (some false) else (if 0 ≤ x1 then (if x1 < (x0.length : Int) then (if ((rd_T30 x0 x1).kind) = 7 then (if x2 = ((rd_T30 x0 x1).a) then (some true) else (some (x2 == ((rd_T30 x0 x1).b)))) else (if ((rd_T30 x0 x1).kind) = 8 then (some (x2 == ((rd_T30 x0 x1).a))) else (if ((rd_T30 x0 x1).kind) = 9 then (some false) else (some (x2 == (wrap64 (x1 + 1))))))) else (none)) else (none))
def lambrequinref20_Leads.f (k : Nat) (l0 : List (Stmt)) (a1 : Int) (a2 : Int) : Option (Bool) := if a1 < 0 then (lambrequinref20_Leads.j0 k l0 a1 a2 true) else (if a1 ≥ (l0.length : Int) then (lambrequinref20_Leads.j0 k l0 a1 a2 true) else (if a2 < 0 then (lambrequinref20_Leads.j0 k l0 a1 a2 true) else (lambrequinref20_Leads.j0 k l0 a1 a2 (decide (a2 ≥ (l0.length : Int))))))
theorem lambrequinref20_Leads.mono_l : ∀ k, (∀ y0 y1 y2 y3, LeO (lambrequinref20_Leads.j0 k y0 y1 y2 y3) (lambrequinref20_Leads.j0 (k + 1) y0 y1 y2 y3))
 | 0 => fun _ _ _ _ r h => by simp [lambrequinref20_Leads.j0] at h
 | k + 1 => by
  have ih0 := lambrequinref20_Leads.mono_l k
  ·intro y0 y1 y2 y3
   unfold lambrequinref20_Leads.j0
   repeat' first
   | (with_reducible exact ih0 _ _ _ _)
   | (with_reducible exact LeO.refl _)
   | (with_reducible exact LeO.none _)
   | (with_reducible refine LeO.ite ?_ ?_)
   | (with_reducible refine LeO.bind ?_ (fun _ => ?_))
   | exact ih0 _ _ _ _
   | exact LeO.none _
   | refine LeO.ite ?_ ?_
   | refine LeO.bind ?_ (fun _ => ?_)
theorem lambrequinref20_Leads.mono : ∀ a0 a1 a2 k, LeO (lambrequinref20_Leads.f k a0 a1 a2) (lambrequinref20_Leads.f (k + 1) a0 a1 a2) := by
 intro a0 a1 a2 k
 have ih0 := lambrequinref20_Leads.mono_l k
 unfold lambrequinref20_Leads.f
 repeat' first
   | (with_reducible exact ih0 _ _ _ _)
   | (with_reducible exact LeO.refl _)
   | (with_reducible exact LeO.none _)
   | (with_reducible refine LeO.ite ?_ ?_)
   | (with_reducible refine LeO.bind ?_ (fun _ => ?_))
   | exact ih0 _ _ _ _
   | exact LeO.none _
   | refine LeO.ite ?_ ?_
   | refine LeO.bind ?_ (fun _ => ?_)
set_option maxHeartbeats 8000000 in
set_option maxRecDepth 100000 in
theorem lambrequinref20_Leads.calls (k : Nat) (A0 : Option Addr) (c0 : Nat) (l0 : List (Stmt)) (a1 : Int) (a2 : Int) (r : Bool) (w : World) (hr0 : Kd.C k30 w A0 l0.length l0) (hc0 : l0.length ≤ c0) (h : lambrequinref20_Leads.f k l0 a1 a2 = some r) :
  Calls Try.prog 53 #[.slice A0 l0.length c0, .int .i64 a1, .int .i64 a2] w fun e w' => e = .returned (.bool r) ∧ Drawn0 w w' := by
 have HR0 := Aside0.mk hr0
 have HC0 := Aside0.mk hc0
 clear hr0 hc0
 have H : (if a1 < 0 then (lambrequinref20_Leads.j0 k l0 a1 a2 true) else (if a1 ≥ (l0.length : Int) then (lambrequinref20_Leads.j0 k l0 a1 a2 true) else (if a2 < 0 then (lambrequinref20_Leads.j0 k l0 a1 a2 true) else (lambrequinref20_Leads.j0 k l0 a1 a2 (decide (a2 ≥ (l0.length : Int))))))) = some r := h
 clear h
 have HC4 := Aside0.mk H
 clear H
 go_enter Try.func53, Try.ntmps53
 go_upto_region 1 with (fail)
 go_cut [24] (fun v24 wc => ∃ (kq : Nat) (x24_3 : Bool), v24 = .bool x24_3 ∧ Aside0 (lambrequinref20_Leads.j0 kq l0 a1 a2 x24_3 = some r) ∧ Aside0 (kq ≤ k) ∧ Drawn0 w wc)
 case first =>
  have H := HC4.out
  clear HC4
  by_cases c5 : a1 < 0
  ·rw [if_pos c5] at H
   have c5b0 : decide (a1 < 0) = true := decide_eq_true c5
   clear c5
   (first | rw [c5b0] | (simp only [i64_w, i32_w]; rw [c5b0]) | skip)
   have H' := Aside0.mk H
   clear H
   go_wp2
   go_meet
   case rel => exact ⟨_, (true), (by first | rfl | (simp; done) | (simp [*]; done)), H', ⟨by first | omega | exact Nat.le_refl _⟩, by repeat (first | exact Drawn0.refl _ | apply Drawn0.step)⟩
  ·rw [if_neg c5] at H
   have c5b0 : decide (a1 < 0) = false := decide_eq_false c5
   clear c5
   (first | rw [c5b0] | (simp only [i64_w, i32_w]; rw [c5b0]) | skip)
   by_cases c6 : a1 ≥ (l0.length : Int)
   ·rw [if_pos c6] at H
    have c6b0 : decide ((l0.length : Int) ≤ a1) = true := decide_eq_true c6
    clear c6
    have H' := Aside0.mk H
    clear H
    go_wp2
    go_meet
    case rel => exact ⟨_, (true), (by first | rfl | (simp; done) | (simp [*]; done)), H', ⟨by first | omega | exact Nat.le_refl _⟩, by repeat (first | exact Drawn0.refl _ | apply Drawn0.step)⟩
   ·rw [if_neg c6] at H
    have c6b0 : decide ((l0.length : Int) ≤ a1) = false := decide_eq_false c6
    clear c6
    by_cases c7 : a2 < 0
    ·rw [if_pos c7] at H
     have c7b0 : decide (a2 < 0) = true := decide_eq_true c7
     clear c7
     have H' := Aside0.mk H
     clear H
     go_wp2
     go_meet
     case rel => exact ⟨_, (true), (by first | rfl | (simp; done) | (simp [*]; done)), H', ⟨by first | omega | exact Nat.le_refl _⟩, by repeat (first | exact Drawn0.refl _ | apply Drawn0.step)⟩
    ·rw [if_neg c7] at H
     have c7b0 : decide (a2 < 0) = false := decide_eq_false c7
     clear c7
     have H' := Aside0.mk H
     clear H
     go_wp2
     go_meet
     case rel => exact ⟨_, (decide (a2 ≥ (l0.length : Int))), (by first | rfl | (simp; done) | (simp [*]; done)), H', ⟨by first | omega | exact Nat.le_refl _⟩, by repeat (first | exact Drawn0.refl _ | apply Drawn0.step)⟩
 case rest =>
  clear HC4
  try clear p2
  try clear c5
  try clear c5b0
  try clear c6
  try clear c6b0
  try clear c7
  try clear c7b0
  obtain ⟨kq, x24_3, rfl, HA, HJ3, ⟨mc3, rfl⟩⟩ := hcut
  cases kq with
  | zero => exact absurd HA.out (by simp [lambrequinref20_Leads.j0])
  | succ kj3 =>
   have H := HA.out
   clear HA
   simp only [lambrequinref20_Leads.j0] at H
   by_cases c8 : x24_3 = true
   ·subst c8
    have H1 : (some false) = some r := by rw [if_pos rfl] at H; exact H
    clear H
    have H := H1
    clear H1
    obtain rfl := Option.some.inj H
    go_wp2
    go_ret
    exact ⟨by first | rfl | (simp; done) | (simp [*]; done), by repeat (first | exact Drawn0.refl _ | apply Drawn0.step)⟩
   ·replace c8 := Bool.eq_false_iff.mpr c8
    subst c8
    have H1 : (if 0 ≤ a1 then (if a1 < (l0.length : Int) then (if ((rd_T30 l0 a1).kind) = 7 then (if a2 = ((rd_T30 l0 a1).a) then (some true) else (some (a2 == ((rd_T30 l0 a1).b)))) else (if ((rd_T30 l0 a1).kind) = 8 then (some (a2 == ((rd_T30 l0 a1).a))) else (if ((rd_T30 l0 a1).kind) = 9 then (some false) else (some (a2 == (wrap64 (a1 + 1))))))) else (none)) else (none)) = some r := by rw [if_neg (show ¬ (false = true) by decide)] at H; exact H
    clear H
    have H := H1
    clear H1
    by_cases c9 : 0 ≤ a1
    ·rw [if_pos c9] at H
     have c9b0 : decide (0 ≤ a1) = true := decide_eq_true c9
     clear c9
     by_cases c10 : a1 < (l0.length : Int)
     ·rw [if_pos c10] at H
      have c10b0 : decide (a1 < (l0.length : Int)) = true := decide_eq_true c10
      clear c10
      by_cases c11 : ((rd_T30 l0 a1).kind) = 7
      ·rw [if_pos c11] at H
       have c11b0 : (((rd_T30 l0 a1).kind) == 7) = true := beq_iff_eq.mpr c11
       have c11b1 : (((rd_T30 l0 a1).kind) != 7) = false := bne_eq_false_iff_eq.mpr c11
       clear c11
       by_cases c12 : a2 = ((rd_T30 l0 a1).a)
       ·rw [if_pos c12] at H
        have c12b0 : (a2 == ((rd_T30 l0 a1).a)) = true := beq_iff_eq.mpr c12
        have c12b1 : (a2 != ((rd_T30 l0 a1).a)) = false := bne_eq_false_iff_eq.mpr c12
        clear c12
        obtain rfl := Option.some.inj H
        have p101 : 0 ≤ (a1 : Int) := of_decide_eq_true (by first | (with_reducible assumption) | assumption)
        have q101 : a1 < (l0.length : Int) := of_decide_eq_true (by first | (with_reducible assumption) | assumption)
        obtain ⟨ad101, e101, hx101_0, hx101_1, hx101_2, hx101_3, hx101_4, hx101_5, hx101_6, hx101_7⟩ := at_T30 HR0.out a1 p101 q101
        cases e101
        replace p101 := eq_true p101
        replace q101 := eq_true q101
        have p102 : 0 ≤ (a1 : Int) := of_decide_eq_true (by first | (with_reducible assumption) | assumption)
        have q102 : a1 < (l0.length : Int) := of_decide_eq_true (by first | (with_reducible assumption) | assumption)
        obtain ⟨ad102, e102, hx102_0, hx102_1, hx102_2, hx102_3, hx102_4, hx102_5, hx102_6, hx102_7⟩ := at_T30 HR0.out a1 p102 q102
        obtain rfl : ad101 = ad102 := (by injection e102)
        replace p102 := eq_true p102
        replace q102 := eq_true q102
        go_wp2
        go_ret
        exact ⟨by first | rfl | (simp; done) | (simp [*]; done), by repeat (first | exact Drawn0.refl _ | apply Drawn0.step)⟩
       ·rw [if_neg c12] at H
        have c12b0 : (a2 == ((rd_T30 l0 a1).a)) = false := beq_eq_false_iff_ne.mpr c12
        have c12b1 : (a2 != ((rd_T30 l0 a1).a)) = true := bne_iff_ne.mpr c12
        obtain rfl := Option.some.inj H
        have p101 : 0 ≤ (a1 : Int) := of_decide_eq_true (by first | (with_reducible assumption) | assumption)
        have q101 : a1 < (l0.length : Int) := of_decide_eq_true (by first | (with_reducible assumption) | assumption)
        obtain ⟨ad101, e101, hx101_0, hx101_1, hx101_2, hx101_3, hx101_4, hx101_5, hx101_6, hx101_7⟩ := at_T30 HR0.out a1 p101 q101
        cases e101
        replace p101 := eq_true p101
        replace q101 := eq_true q101
        have p102 : 0 ≤ (a1 : Int) := of_decide_eq_true (by first | (with_reducible assumption) | assumption)
        have q102 : a1 < (l0.length : Int) := of_decide_eq_true (by first | (with_reducible assumption) | assumption)
        obtain ⟨ad102, e102, hx102_0, hx102_1, hx102_2, hx102_3, hx102_4, hx102_5, hx102_6, hx102_7⟩ := at_T30 HR0.out a1 p102 q102
        obtain rfl : ad101 = ad102 := (by injection e102)
        replace p102 := eq_true p102
        replace q102 := eq_true q102
        have p103 : 0 ≤ (a1 : Int) := of_decide_eq_true (by first | (with_reducible assumption) | assumption)
        have q103 : a1 < (l0.length : Int) := of_decide_eq_true (by first | (with_reducible assumption) | assumption)
        obtain ⟨ad103, e103, hx103_0, hx103_1, hx103_2, hx103_3, hx103_4, hx103_5, hx103_6, hx103_7⟩ := at_T30 HR0.out a1 p103 q103
        obtain rfl : ad101 = ad103 := (by injection e103)
        replace p103 := eq_true p103
        replace q103 := eq_true q103
        go_wp2
        go_ret
        exact ⟨by first | rfl | (simp; done) | (simp [*]; done), by repeat (first | exact Drawn0.refl _ | apply Drawn0.step)⟩
      ·rw [if_neg c11] at H
       have c11b0 : (((rd_T30 l0 a1).kind) == 7) = false := beq_eq_false_iff_ne.mpr c11
       have c11b1 : (((rd_T30 l0 a1).kind) != 7) = true := bne_iff_ne.mpr c11
       by_cases c13 : ((rd_T30 l0 a1).kind) = 8
       ·rw [if_pos c13] at H
        have c13b0 : (((rd_T30 l0 a1).kind) == 8) = true := beq_iff_eq.mpr c13
        have c13b1 : (((rd_T30 l0 a1).kind) != 8) = false := bne_eq_false_iff_eq.mpr c13
        clear c13
        obtain rfl := Option.some.inj H
        have p101 : 0 ≤ (a1 : Int) := of_decide_eq_true (by first | (with_reducible assumption) | assumption)
        have q101 : a1 < (l0.length : Int) := of_decide_eq_true (by first | (with_reducible assumption) | assumption)
        obtain ⟨ad101, e101, hx101_0, hx101_1, hx101_2, hx101_3, hx101_4, hx101_5, hx101_6, hx101_7⟩ := at_T30 HR0.out a1 p101 q101
        cases e101
        replace p101 := eq_true p101
        replace q101 := eq_true q101
        have p104 : 0 ≤ (a1 : Int) := of_decide_eq_true (by first | (with_reducible assumption) | assumption)
        have q104 : a1 < (l0.length : Int) := of_decide_eq_true (by first | (with_reducible assumption) | assumption)
        obtain ⟨ad104, e104, hx104_0, hx104_1, hx104_2, hx104_3, hx104_4, hx104_5, hx104_6, hx104_7⟩ := at_T30 HR0.out a1 p104 q104
        obtain rfl : ad101 = ad104 := (by injection e104)
        replace p104 := eq_true p104
        replace q104 := eq_true q104
        go_wp2
        go_ret
        exact ⟨by first | rfl | (simp; done) | (simp [*]; done), by repeat (first | exact Drawn0.refl _ | apply Drawn0.step)⟩
       ·rw [if_neg c13] at H
        have c13b0 : (((rd_T30 l0 a1).kind) == 8) = false := beq_eq_false_iff_ne.mpr c13
        have c13b1 : (((rd_T30 l0 a1).kind) != 8) = true := bne_iff_ne.mpr c13
        by_cases c14 : ((rd_T30 l0 a1).kind) = 9
        ·rw [if_pos c14] at H
         have c14b0 : (((rd_T30 l0 a1).kind) == 9) = true := beq_iff_eq.mpr c14
         have c14b1 : (((rd_T30 l0 a1).kind) != 9) = false := bne_eq_false_iff_eq.mpr c14
         clear c14
         obtain rfl := Option.some.inj H
         have p101 : 0 ≤ (a1 : Int) := of_decide_eq_true (by first | (with_reducible assumption) | assumption)
         have q101 : a1 < (l0.length : Int) := of_decide_eq_true (by first | (with_reducible assumption) | assumption)
         obtain ⟨ad101, e101, hx101_0, hx101_1, hx101_2, hx101_3, hx101_4, hx101_5, hx101_6, hx101_7⟩ := at_T30 HR0.out a1 p101 q101
         cases e101
         replace p101 := eq_true p101
         replace q101 := eq_true q101
         go_wp2
         go_ret
         exact ⟨by first | rfl | (simp; done) | (simp [*]; done), by repeat (first | exact Drawn0.refl _ | apply Drawn0.step)⟩
        ·rw [if_neg c14] at H
         have c14b0 : (((rd_T30 l0 a1).kind) == 9) = false := beq_eq_false_iff_ne.mpr c14
         have c14b1 : (((rd_T30 l0 a1).kind) != 9) = true := bne_iff_ne.mpr c14
         obtain rfl := Option.some.inj H
         have p101 : 0 ≤ (a1 : Int) := of_decide_eq_true (by first | (with_reducible assumption) | assumption)
         have q101 : a1 < (l0.length : Int) := of_decide_eq_true (by first | (with_reducible assumption) | assumption)
         obtain ⟨ad101, e101, hx101_0, hx101_1, hx101_2, hx101_3, hx101_4, hx101_5, hx101_6, hx101_7⟩ := at_T30 HR0.out a1 p101 q101
         cases e101
         replace p101 := eq_true p101
         replace q101 := eq_true q101
         go_wp2
         go_ret
         exact ⟨by first | rfl | (simp; done) | (simp [*]; done), by repeat (first | exact Drawn0.refl _ | apply Drawn0.step)⟩
     ·rw [if_neg c10] at H
      exact absurd H (by simp)
    ·rw [if_neg c9] at H
     exact absurd H (by simp)
def lambrequinref20_Uses.f (k : Nat) (a0_0 : Int) (a0_1 : ByteArray) (a0_2 : ByteArray) (a0_3 : ByteArray) (a0_4 : ByteArray) (a0_5 : Int) (a0_6 : Int) (a0_7 : Int) : Option (List ByteArray) := if a0_0 = 2 then ((lambrequinref09_Sorted.f k (([a0_2, a0_3] : List ByteArray))).bind fun t105 => (some t105)) else (if a0_0 = 3 then (some (([a0_2] : List ByteArray))) else (if a0_0 = 5 then (some (([a0_2] : List ByteArray))) else (if a0_0 = 6 then (some (([a0_2] : List ByteArray))) else (if a0_0 = 7 then (some (([a0_2] : List ByteArray))) else (some ([] : List ByteArray))))))
theorem lambrequinref20_Uses.mono : ∀ a0 a1 a2 a3 a4 a5 a6 a7 k, LeO (lambrequinref20_Uses.f k a0 a1 a2 a3 a4 a5 a6 a7) (lambrequinref20_Uses.f (k + 1) a0 a1 a2 a3 a4 a5 a6 a7) := by
 intro a0 a1 a2 a3 a4 a5 a6 a7 k
 unfold lambrequinref20_Uses.f
 repeat' first
   | (with_reducible exact lambrequinref09_Sorted.mono _ _)
   | (with_reducible exact LeO.refl _)
   | (with_reducible exact LeO.none _)
   | (with_reducible refine LeO.ite ?_ ?_)
   | (with_reducible refine LeO.bind ?_ (fun _ => ?_))
   | exact lambrequinref09_Sorted.mono _ _
   | exact LeO.none _
   | refine LeO.ite ?_ ?_
   | refine LeO.bind ?_ (fun _ => ?_)
set_option maxHeartbeats 8000000 in
set_option maxRecDepth 100000 in
theorem lambrequinref20_Uses.calls (k : Nat) (a0_0 : Int) (a0_1 : ByteArray) (a0_2 : ByteArray) (a0_3 : ByteArray) (a0_4 : ByteArray) (a0_5 : Int) (a0_6 : Int) (a0_7 : Int) (r : List ByteArray) (w : World) (h : lambrequinref20_Uses.f k a0_0 a0_1 a0_2 a0_3 a0_4 a0_5 a0_6 a0_7 = some r) :
  Calls Try.prog 30 #[.agg #[.int .i64 a0_0, .string a0_1, .string a0_2, .string a0_3, .string a0_4, .int .i64 a0_5, .int .i64 a0_6, .int .i64 a0_7]] w fun e w' => ∃ v0_ : Value, e = .returned (v0_) ∧ Kd.R Kd.string 9 w' w.heap.size (fun _ => True) v0_ r ∧ Below w.heap.size w w' := by
 have hu30 := Try.underlying30
 have HB := am (Below.refl w.heap.size w)
 have H : (if a0_0 = 2 then ((lambrequinref09_Sorted.f k (([a0_2, a0_3] : List ByteArray))).bind fun t105 => (some t105)) else (if a0_0 = 3 then (some (([a0_2] : List ByteArray))) else (if a0_0 = 5 then (some (([a0_2] : List ByteArray))) else (if a0_0 = 6 then (some (([a0_2] : List ByteArray))) else (if a0_0 = 7 then (some (([a0_2] : List ByteArray))) else (some ([] : List ByteArray))))))) = some r := h
 clear h
 by_cases c2 : a0_0 = 2
 ·rw [if_pos c2] at H
  have c2b0 : (a0_0 == 2) = true := beq_iff_eq.mpr c2
  have c2b1 : (a0_0 != 2) = false := bne_eq_false_iff_eq.mpr c2
  clear c2
  obtain ⟨y102, hy102⟩ : ∃ y_ : List ByteArray, y_ = (([a0_2, a0_3] : List ByteArray)) := ⟨_, rfl⟩
  replace H : ((lambrequinref09_Sorted.f k y102).bind fun t105 => (some t105)) = some r := by first | (rw [hy102]; with_reducible exact H) | (have H2_ := (Option.bind_some _ _).symm.trans H; rw [hy102]; with_reducible exact H2_) | (have H2_ := (Option.bind_some _ _).symm.trans H; with_reducible exact H2_) | with_reducible exact H | (rw [hy102]; exact H) | exact H
  have Ny102 := am hy102
  clear hy102
  replace H := Option.bind_eq_some_iff.mp H
  obtain ⟨t105, A30, H⟩ := H
  replace H : (some t105) = some r := H
  have A3 := am A30
  clear A30
  obtain rfl := Option.some.inj H
  go_enter Try.func30, Try.ntmps30
  go_wp2_with (first | ((with_reducible refine gate_dst (N := 1) rfl ?_); refine box_event ?hg (N := 1) ?hd (cs := #[.int .i64 a0_0, .string a0_1, .string a0_2, .string a0_3, .string a0_4, .int .i64 a0_5, .int .i64 a0_6, .int .i64 a0_7]) (t := 30) ?hr ?_; (case hd => rfl); (case hg => rfl); (case hr => first | (go_simp; done) | (go_simp; rfl)); intro gb101 hg w4 hbox hb; have BK101 := am (hbox); have GW101 := am ((by rw [hg]; exact (below_size (by repeat (first | (with_reducible first | exact HB.out | apply lA | apply lN | apply lD) | exact HB.out))) : w.heap.size ≤ gb101)); have GE101 := am ((by rw [hg]; exact (below_size (by repeat (first | (with_reducible first | exact HB.out | apply lA | apply lN | apply lD) | exact HB.out))) : w.heap.size ≤ gb101)); replace HB := am (below_step (by repeat (first | (with_reducible first | exact HB.out | apply lA | apply lN | apply lD) | exact HB.out)) hb); clear hb hbox hg; have hcz5_0 : w4.cell? ⟨gb101, 0, none⟩ = some (.int .i64 a0_0) := (blk_cell BK101.out 0).trans rfl; have hcz5_1 : w4.cell? ⟨gb101, 1, none⟩ = some (.string a0_1) := (blk_cell BK101.out 1).trans rfl; have hcz5_2 : w4.cell? ⟨gb101, 2, none⟩ = some (.string a0_2) := (blk_cell BK101.out 2).trans rfl; have hcz5_3 : w4.cell? ⟨gb101, 3, none⟩ = some (.string a0_3) := (blk_cell BK101.out 3).trans rfl; have hcz5_4 : w4.cell? ⟨gb101, 4, none⟩ = some (.string a0_4) := (blk_cell BK101.out 4).trans rfl; have hcz5_5 : w4.cell? ⟨gb101, 5, none⟩ = some (.int .i64 a0_5) := (blk_cell BK101.out 5).trans rfl; have hcz5_6 : w4.cell? ⟨gb101, 6, none⟩ = some (.int .i64 a0_6) := (blk_cell BK101.out 6).trans rfl; have hcz5_7 : w4.cell? ⟨gb101, 7, none⟩ = some (.int .i64 a0_7) := (blk_cell BK101.out 7).trans rfl; have hfz5_0 := blk_frozen BK101.out 0; have hfz5_1 := blk_frozen BK101.out 1; have hfz5_2 := blk_frozen BK101.out 2; have hfz5_3 := blk_frozen BK101.out 3; have hfz5_4 := blk_frozen BK101.out 4; have hfz5_5 := blk_frozen BK101.out 5; have hfz5_6 := blk_frozen BK101.out 6; have hfz5_7 := blk_frozen BK101.out 7) | ((with_reducible refine gate_dst (N := 10) rfl ?_); refine Kd.R_lit Kd.string _ 9 ?hg (N := 10) ?hd (xs := ([a0_2, a0_3] : List ByteArray)) (inner := [.string a0_2, .string a0_3]) (ok := fun _ => True) (okp := fun _ => True) ?hr ?hp (fun _ hk => hk) trivial (Below.refl _ _) (Nat.le_refl _) (by simp) ?_; (case hd => rfl); (case hg => rfl); (case hr => first | (go_simp; done) | (go_simp; rfl)); (case hp => exact (Reps.one (show Kd.M Kd.string _ _ _ a0_2 [.string a0_2] from rfl) (Reps.one (show Kd.M Kd.string _ _ _ a0_3 [.string a0_3] from rfl) (Reps.none _ _)))); intro v103 w6 ho7 hb hg_ hnew_; clear hg_ hnew_; (first | rw [← Ny102.out] at ho7 | (simp only [Int.reduceToNat] at ho7; rw [← Ny102.out] at ho7)); have HO104 := am (Kd.R_lower ho7 (below_size (by repeat (first | (with_reducible first | exact HB.out | apply lA | apply lN | apply lD | refine lS ?_ GE101.out) | exact HB.out)))); replace BK101 := am (blk_below (g := gb101) (o := .cells #[.int .i64 a0_0, .string a0_1, .string a0_2, .string a0_3, .string a0_4, .int .i64 a0_5, .int .i64 a0_6, .int .i64 a0_7] 30 (0, 0)) (by (with_reducible repeat (first | refine bN ?_ _ | refine bD ?_ | refine bA ?_ _)); exact BK101.out) hb); replace HB := am (below_step (by repeat (first | (with_reducible first | exact HB.out | apply lA | apply lN | apply lD | refine lS ?_ GE101.out) | exact HB.out)) hb); clear hb ho7; obtain ⟨Ao8, co8, eo8⟩ := Kd.R_slice HO104.out; subst eo8) | ((with_reducible refine gate_callee (f := 54) rfl ?_); refine goesL_ (some 11) rfl rfl Try.func54 (by kernel_rfl) rfl #[.slice Ao8 y102.length co8] rfl (by (try simp only [List.map_toArray, List.map_cons, List.map_nil]); first | done | rfl | (simp only [List.length_drop, List.length_take]; rfl)) ?_; (with_reducible refine (lambrequinref09_Sorted.calls k _ _ y102 t105 _ ?side1 ?side2 A3.out).mono ?_); (case side1 => repeat (first | exact (Kd.R_reads' HO104.out).2.2 | (with_reducible refine Kd.C_alloc ?_ _) | (with_reducible refine Kd.C_drewN ?_ _) | (with_reducible refine Kd.C_drew ?_))); (case side2 => exact (Kd.R_reads' HO104.out).2.1); rintro e w9 ⟨v106, rfl, ho0, hb⟩; refine ⟨_, rfl, ?_⟩; have HO107 := am (Kd.R_lower (Kd.R_new' ho0 (Kd.R_lt (by (with_reducible repeat (first | apply Ra | apply Rn | apply Rd)); exact HO104.out))) (below_size (by repeat (first | (with_reducible first | exact HB.out | apply lA | apply lN | apply lD | refine lS ?_ GE101.out) | exact HB.out)))); replace HO104 := am (Kd.R_elder' (by (with_reducible repeat (first | apply Ra | apply Rn | apply Rd)); exact HO104.out) (Kd.R_base ho0) hb); replace BK101 := am (blk_below (g := gb101) (o := .cells #[.int .i64 a0_0, .string a0_1, .string a0_2, .string a0_3, .string a0_4, .int .i64 a0_5, .int .i64 a0_6, .int .i64 a0_7] 30 (0, 0)) (by (with_reducible repeat (first | refine bN ?_ _ | refine bD ?_ | refine bA ?_ _)); exact BK101.out) hb); replace HB := am (below_step (by repeat (first | (with_reducible first | exact HB.out | apply lA | apply lN | apply lD | refine lS ?_ GE101.out) | exact HB.out)) hb); (try clear hb); (try clear hb2); (try clear hk); (try clear hi); (try clear ho0)))
  go_ret
  exact ⟨_, by first | rfl | (simp [errW_none, errW_some] <;> rfl) | (simp [*, errW_none, errW_some] <;> rfl), by (with_reducible repeat (first | apply Ra | apply Rn | apply Rd)); exact Kd.R_mono HO107.out (fun _ hk => trivial), by repeat (first | (with_reducible first | exact HB.out | apply lA | apply lN | apply lD | refine lS ?_ GE101.out) | exact HB.out)⟩
 ·rw [if_neg c2] at H
  have c2b0 : (a0_0 == 2) = false := beq_eq_false_iff_ne.mpr c2
  have c2b1 : (a0_0 != 2) = true := bne_iff_ne.mpr c2
  by_cases c10 : a0_0 = 3
  ·rw [if_pos c10] at H
   have c10b0 : (a0_0 == 3) = true := beq_iff_eq.mpr c10
   have c10b1 : (a0_0 != 3) = false := bne_eq_false_iff_eq.mpr c10
   clear c10
   obtain ⟨y108, hy108⟩ : ∃ y_ : List ByteArray, y_ = (([a0_2] : List ByteArray)) := ⟨_, rfl⟩
   replace H : (some y108) = some r := by first | (rw [hy108]; with_reducible exact H) | (have H2_ := (Option.bind_some _ _).symm.trans H; rw [hy108]; with_reducible exact H2_) | (have H2_ := (Option.bind_some _ _).symm.trans H; with_reducible exact H2_) | with_reducible exact H | (rw [hy108]; exact H) | exact H
   have Ny108 := am hy108
   clear hy108
   obtain rfl := Option.some.inj H
   go_enter Try.func30, Try.ntmps30
   go_wp2_with (first | ((with_reducible refine gate_dst (N := 1) rfl ?_); refine box_event ?hg (N := 1) ?hd (cs := #[.int .i64 a0_0, .string a0_1, .string a0_2, .string a0_3, .string a0_4, .int .i64 a0_5, .int .i64 a0_6, .int .i64 a0_7]) (t := 30) ?hr ?_; (case hd => rfl); (case hg => rfl); (case hr => first | (go_simp; done) | (go_simp; rfl)); intro gb101 hg w11 hbox hb; have BK101 := am (hbox); have GW101 := am ((by rw [hg]; exact (below_size (by repeat (first | (with_reducible first | exact HB.out | apply lA | apply lN | apply lD) | exact HB.out))) : w.heap.size ≤ gb101)); have GE101 := am ((by rw [hg]; exact (below_size (by repeat (first | (with_reducible first | exact HB.out | apply lA | apply lN | apply lD) | exact HB.out))) : w.heap.size ≤ gb101)); replace HB := am (below_step (by repeat (first | (with_reducible first | exact HB.out | apply lA | apply lN | apply lD) | exact HB.out)) hb); clear hb hbox hg; have hcz12_0 : w11.cell? ⟨gb101, 0, none⟩ = some (.int .i64 a0_0) := (blk_cell BK101.out 0).trans rfl; have hcz12_1 : w11.cell? ⟨gb101, 1, none⟩ = some (.string a0_1) := (blk_cell BK101.out 1).trans rfl; have hcz12_2 : w11.cell? ⟨gb101, 2, none⟩ = some (.string a0_2) := (blk_cell BK101.out 2).trans rfl; have hcz12_3 : w11.cell? ⟨gb101, 3, none⟩ = some (.string a0_3) := (blk_cell BK101.out 3).trans rfl; have hcz12_4 : w11.cell? ⟨gb101, 4, none⟩ = some (.string a0_4) := (blk_cell BK101.out 4).trans rfl; have hcz12_5 : w11.cell? ⟨gb101, 5, none⟩ = some (.int .i64 a0_5) := (blk_cell BK101.out 5).trans rfl; have hcz12_6 : w11.cell? ⟨gb101, 6, none⟩ = some (.int .i64 a0_6) := (blk_cell BK101.out 6).trans rfl; have hcz12_7 : w11.cell? ⟨gb101, 7, none⟩ = some (.int .i64 a0_7) := (blk_cell BK101.out 7).trans rfl; have hfz12_0 := blk_frozen BK101.out 0; have hfz12_1 := blk_frozen BK101.out 1; have hfz12_2 := blk_frozen BK101.out 2; have hfz12_3 := blk_frozen BK101.out 3; have hfz12_4 := blk_frozen BK101.out 4; have hfz12_5 := blk_frozen BK101.out 5; have hfz12_6 := blk_frozen BK101.out 6; have hfz12_7 := blk_frozen BK101.out 7) | ((with_reducible refine gate_dst (N := 32) rfl ?_); refine Kd.R_lit Kd.string _ 9 ?hg (N := 32) ?hd (xs := ([a0_2] : List ByteArray)) (inner := [.string a0_2]) (ok := fun _ => True) (okp := fun _ => True) ?hr ?hp (fun _ hk => hk) trivial (Below.refl _ _) (Nat.le_refl _) (by simp) ?_; (case hd => rfl); (case hg => rfl); (case hr => first | (go_simp; done) | (go_simp; rfl)); (case hp => exact (Reps.one (show Kd.M Kd.string _ _ _ a0_2 [.string a0_2] from rfl) (Reps.none _ _))); intro v109 w13 ho14 hb hg_ hnew_; clear hg_ hnew_; (first | rw [← Ny108.out] at ho14 | (simp only [Int.reduceToNat] at ho14; rw [← Ny108.out] at ho14)); have HO110 := am (Kd.R_lower ho14 (below_size (by repeat (first | (with_reducible first | exact HB.out | apply lA | apply lN | apply lD | refine lS ?_ GE101.out) | exact HB.out)))); replace BK101 := am (blk_below (g := gb101) (o := .cells #[.int .i64 a0_0, .string a0_1, .string a0_2, .string a0_3, .string a0_4, .int .i64 a0_5, .int .i64 a0_6, .int .i64 a0_7] 30 (0, 0)) (by (with_reducible repeat (first | refine bN ?_ _ | refine bD ?_ | refine bA ?_ _)); exact BK101.out) hb); replace HB := am (below_step (by repeat (first | (with_reducible first | exact HB.out | apply lA | apply lN | apply lD | refine lS ?_ GE101.out) | exact HB.out)) hb); clear hb ho14))
   go_ret
   exact ⟨_, by first | rfl | (simp [errW_none, errW_some] <;> rfl) | (simp [*, errW_none, errW_some] <;> rfl), by (with_reducible repeat (first | apply Ra | apply Rn | apply Rd)); exact HO110.out, by repeat (first | (with_reducible first | exact HB.out | apply lA | apply lN | apply lD | refine lS ?_ GE101.out) | exact HB.out)⟩
  ·rw [if_neg c10] at H
   have c10b0 : (a0_0 == 3) = false := beq_eq_false_iff_ne.mpr c10
   have c10b1 : (a0_0 != 3) = true := bne_iff_ne.mpr c10
   by_cases c15 : a0_0 = 5
   ·rw [if_pos c15] at H
    have c15b0 : (a0_0 == 5) = true := beq_iff_eq.mpr c15
    have c15b1 : (a0_0 != 5) = false := bne_eq_false_iff_eq.mpr c15
    clear c15
    obtain ⟨y111, hy111⟩ : ∃ y_ : List ByteArray, y_ = (([a0_2] : List ByteArray)) := ⟨_, rfl⟩
    replace H : (some y111) = some r := by first | (rw [hy111]; with_reducible exact H) | (have H2_ := (Option.bind_some _ _).symm.trans H; rw [hy111]; with_reducible exact H2_) | (have H2_ := (Option.bind_some _ _).symm.trans H; with_reducible exact H2_) | with_reducible exact H | (rw [hy111]; exact H) | exact H
    have Ny111 := am hy111
    clear hy111
    obtain rfl := Option.some.inj H
    go_enter Try.func30, Try.ntmps30
    go_wp2_with (first | ((with_reducible refine gate_dst (N := 1) rfl ?_); refine box_event ?hg (N := 1) ?hd (cs := #[.int .i64 a0_0, .string a0_1, .string a0_2, .string a0_3, .string a0_4, .int .i64 a0_5, .int .i64 a0_6, .int .i64 a0_7]) (t := 30) ?hr ?_; (case hd => rfl); (case hg => rfl); (case hr => first | (go_simp; done) | (go_simp; rfl)); intro gb101 hg w16 hbox hb; have BK101 := am (hbox); have GW101 := am ((by rw [hg]; exact (below_size (by repeat (first | (with_reducible first | exact HB.out | apply lA | apply lN | apply lD) | exact HB.out))) : w.heap.size ≤ gb101)); have GE101 := am ((by rw [hg]; exact (below_size (by repeat (first | (with_reducible first | exact HB.out | apply lA | apply lN | apply lD) | exact HB.out))) : w.heap.size ≤ gb101)); replace HB := am (below_step (by repeat (first | (with_reducible first | exact HB.out | apply lA | apply lN | apply lD) | exact HB.out)) hb); clear hb hbox hg; have hcz17_0 : w16.cell? ⟨gb101, 0, none⟩ = some (.int .i64 a0_0) := (blk_cell BK101.out 0).trans rfl; have hcz17_1 : w16.cell? ⟨gb101, 1, none⟩ = some (.string a0_1) := (blk_cell BK101.out 1).trans rfl; have hcz17_2 : w16.cell? ⟨gb101, 2, none⟩ = some (.string a0_2) := (blk_cell BK101.out 2).trans rfl; have hcz17_3 : w16.cell? ⟨gb101, 3, none⟩ = some (.string a0_3) := (blk_cell BK101.out 3).trans rfl; have hcz17_4 : w16.cell? ⟨gb101, 4, none⟩ = some (.string a0_4) := (blk_cell BK101.out 4).trans rfl; have hcz17_5 : w16.cell? ⟨gb101, 5, none⟩ = some (.int .i64 a0_5) := (blk_cell BK101.out 5).trans rfl; have hcz17_6 : w16.cell? ⟨gb101, 6, none⟩ = some (.int .i64 a0_6) := (blk_cell BK101.out 6).trans rfl; have hcz17_7 : w16.cell? ⟨gb101, 7, none⟩ = some (.int .i64 a0_7) := (blk_cell BK101.out 7).trans rfl; have hfz17_0 := blk_frozen BK101.out 0; have hfz17_1 := blk_frozen BK101.out 1; have hfz17_2 := blk_frozen BK101.out 2; have hfz17_3 := blk_frozen BK101.out 3; have hfz17_4 := blk_frozen BK101.out 4; have hfz17_5 := blk_frozen BK101.out 5; have hfz17_6 := blk_frozen BK101.out 6; have hfz17_7 := blk_frozen BK101.out 7) | ((with_reducible refine gate_dst (N := 32) rfl ?_); refine Kd.R_lit Kd.string _ 9 ?hg (N := 32) ?hd (xs := ([a0_2] : List ByteArray)) (inner := [.string a0_2]) (ok := fun _ => True) (okp := fun _ => True) ?hr ?hp (fun _ hk => hk) trivial (Below.refl _ _) (Nat.le_refl _) (by simp) ?_; (case hd => rfl); (case hg => rfl); (case hr => first | (go_simp; done) | (go_simp; rfl)); (case hp => exact (Reps.one (show Kd.M Kd.string _ _ _ a0_2 [.string a0_2] from rfl) (Reps.none _ _))); intro v112 w18 ho19 hb hg_ hnew_; clear hg_ hnew_; (first | rw [← Ny111.out] at ho19 | (simp only [Int.reduceToNat] at ho19; rw [← Ny111.out] at ho19)); have HO113 := am (Kd.R_lower ho19 (below_size (by repeat (first | (with_reducible first | exact HB.out | apply lA | apply lN | apply lD | refine lS ?_ GE101.out) | exact HB.out)))); replace BK101 := am (blk_below (g := gb101) (o := .cells #[.int .i64 a0_0, .string a0_1, .string a0_2, .string a0_3, .string a0_4, .int .i64 a0_5, .int .i64 a0_6, .int .i64 a0_7] 30 (0, 0)) (by (with_reducible repeat (first | refine bN ?_ _ | refine bD ?_ | refine bA ?_ _)); exact BK101.out) hb); replace HB := am (below_step (by repeat (first | (with_reducible first | exact HB.out | apply lA | apply lN | apply lD | refine lS ?_ GE101.out) | exact HB.out)) hb); clear hb ho19))
    go_ret
    exact ⟨_, by first | rfl | (simp [errW_none, errW_some] <;> rfl) | (simp [*, errW_none, errW_some] <;> rfl), by (with_reducible repeat (first | apply Ra | apply Rn | apply Rd)); exact HO113.out, by repeat (first | (with_reducible first | exact HB.out | apply lA | apply lN | apply lD | refine lS ?_ GE101.out) | exact HB.out)⟩
   ·rw [if_neg c15] at H
    have c15b0 : (a0_0 == 5) = false := beq_eq_false_iff_ne.mpr c15
    have c15b1 : (a0_0 != 5) = true := bne_iff_ne.mpr c15
    by_cases c20 : a0_0 = 6
    ·rw [if_pos c20] at H
     have c20b0 : (a0_0 == 6) = true := beq_iff_eq.mpr c20
     have c20b1 : (a0_0 != 6) = false := bne_eq_false_iff_eq.mpr c20
     clear c20
     obtain ⟨y114, hy114⟩ : ∃ y_ : List ByteArray, y_ = (([a0_2] : List ByteArray)) := ⟨_, rfl⟩
     replace H : (some y114) = some r := by first | (rw [hy114]; with_reducible exact H) | (have H2_ := (Option.bind_some _ _).symm.trans H; rw [hy114]; with_reducible exact H2_) | (have H2_ := (Option.bind_some _ _).symm.trans H; with_reducible exact H2_) | with_reducible exact H | (rw [hy114]; exact H) | exact H
     have Ny114 := am hy114
     clear hy114
     obtain rfl := Option.some.inj H
     go_enter Try.func30, Try.ntmps30
     go_wp2_with (first | ((with_reducible refine gate_dst (N := 1) rfl ?_); refine box_event ?hg (N := 1) ?hd (cs := #[.int .i64 a0_0, .string a0_1, .string a0_2, .string a0_3, .string a0_4, .int .i64 a0_5, .int .i64 a0_6, .int .i64 a0_7]) (t := 30) ?hr ?_; (case hd => rfl); (case hg => rfl); (case hr => first | (go_simp; done) | (go_simp; rfl)); intro gb101 hg w21 hbox hb; have BK101 := am (hbox); have GW101 := am ((by rw [hg]; exact (below_size (by repeat (first | (with_reducible first | exact HB.out | apply lA | apply lN | apply lD) | exact HB.out))) : w.heap.size ≤ gb101)); have GE101 := am ((by rw [hg]; exact (below_size (by repeat (first | (with_reducible first | exact HB.out | apply lA | apply lN | apply lD) | exact HB.out))) : w.heap.size ≤ gb101)); replace HB := am (below_step (by repeat (first | (with_reducible first | exact HB.out | apply lA | apply lN | apply lD) | exact HB.out)) hb); clear hb hbox hg; have hcz22_0 : w21.cell? ⟨gb101, 0, none⟩ = some (.int .i64 a0_0) := (blk_cell BK101.out 0).trans rfl; have hcz22_1 : w21.cell? ⟨gb101, 1, none⟩ = some (.string a0_1) := (blk_cell BK101.out 1).trans rfl; have hcz22_2 : w21.cell? ⟨gb101, 2, none⟩ = some (.string a0_2) := (blk_cell BK101.out 2).trans rfl; have hcz22_3 : w21.cell? ⟨gb101, 3, none⟩ = some (.string a0_3) := (blk_cell BK101.out 3).trans rfl; have hcz22_4 : w21.cell? ⟨gb101, 4, none⟩ = some (.string a0_4) := (blk_cell BK101.out 4).trans rfl; have hcz22_5 : w21.cell? ⟨gb101, 5, none⟩ = some (.int .i64 a0_5) := (blk_cell BK101.out 5).trans rfl; have hcz22_6 : w21.cell? ⟨gb101, 6, none⟩ = some (.int .i64 a0_6) := (blk_cell BK101.out 6).trans rfl; have hcz22_7 : w21.cell? ⟨gb101, 7, none⟩ = some (.int .i64 a0_7) := (blk_cell BK101.out 7).trans rfl; have hfz22_0 := blk_frozen BK101.out 0; have hfz22_1 := blk_frozen BK101.out 1; have hfz22_2 := blk_frozen BK101.out 2; have hfz22_3 := blk_frozen BK101.out 3; have hfz22_4 := blk_frozen BK101.out 4; have hfz22_5 := blk_frozen BK101.out 5; have hfz22_6 := blk_frozen BK101.out 6; have hfz22_7 := blk_frozen BK101.out 7) | ((with_reducible refine gate_dst (N := 32) rfl ?_); refine Kd.R_lit Kd.string _ 9 ?hg (N := 32) ?hd (xs := ([a0_2] : List ByteArray)) (inner := [.string a0_2]) (ok := fun _ => True) (okp := fun _ => True) ?hr ?hp (fun _ hk => hk) trivial (Below.refl _ _) (Nat.le_refl _) (by simp) ?_; (case hd => rfl); (case hg => rfl); (case hr => first | (go_simp; done) | (go_simp; rfl)); (case hp => exact (Reps.one (show Kd.M Kd.string _ _ _ a0_2 [.string a0_2] from rfl) (Reps.none _ _))); intro v115 w23 ho24 hb hg_ hnew_; clear hg_ hnew_; (first | rw [← Ny114.out] at ho24 | (simp only [Int.reduceToNat] at ho24; rw [← Ny114.out] at ho24)); have HO116 := am (Kd.R_lower ho24 (below_size (by repeat (first | (with_reducible first | exact HB.out | apply lA | apply lN | apply lD | refine lS ?_ GE101.out) | exact HB.out)))); replace BK101 := am (blk_below (g := gb101) (o := .cells #[.int .i64 a0_0, .string a0_1, .string a0_2, .string a0_3, .string a0_4, .int .i64 a0_5, .int .i64 a0_6, .int .i64 a0_7] 30 (0, 0)) (by (with_reducible repeat (first | refine bN ?_ _ | refine bD ?_ | refine bA ?_ _)); exact BK101.out) hb); replace HB := am (below_step (by repeat (first | (with_reducible first | exact HB.out | apply lA | apply lN | apply lD | refine lS ?_ GE101.out) | exact HB.out)) hb); clear hb ho24))
     go_ret
     exact ⟨_, by first | rfl | (simp [errW_none, errW_some] <;> rfl) | (simp [*, errW_none, errW_some] <;> rfl), by (with_reducible repeat (first | apply Ra | apply Rn | apply Rd)); exact HO116.out, by repeat (first | (with_reducible first | exact HB.out | apply lA | apply lN | apply lD | refine lS ?_ GE101.out) | exact HB.out)⟩
    ·rw [if_neg c20] at H
     have c20b0 : (a0_0 == 6) = false := beq_eq_false_iff_ne.mpr c20
     have c20b1 : (a0_0 != 6) = true := bne_iff_ne.mpr c20
     by_cases c25 : a0_0 = 7
     ·rw [if_pos c25] at H
      have c25b0 : (a0_0 == 7) = true := beq_iff_eq.mpr c25
      have c25b1 : (a0_0 != 7) = false := bne_eq_false_iff_eq.mpr c25
      clear c25
      obtain ⟨y117, hy117⟩ : ∃ y_ : List ByteArray, y_ = (([a0_2] : List ByteArray)) := ⟨_, rfl⟩
      replace H : (some y117) = some r := by first | (rw [hy117]; with_reducible exact H) | (have H2_ := (Option.bind_some _ _).symm.trans H; rw [hy117]; with_reducible exact H2_) | (have H2_ := (Option.bind_some _ _).symm.trans H; with_reducible exact H2_) | with_reducible exact H | (rw [hy117]; exact H) | exact H
      have Ny117 := am hy117
      clear hy117
      obtain rfl := Option.some.inj H
      go_enter Try.func30, Try.ntmps30
      go_wp2_with (first | ((with_reducible refine gate_dst (N := 1) rfl ?_); refine box_event ?hg (N := 1) ?hd (cs := #[.int .i64 a0_0, .string a0_1, .string a0_2, .string a0_3, .string a0_4, .int .i64 a0_5, .int .i64 a0_6, .int .i64 a0_7]) (t := 30) ?hr ?_; (case hd => rfl); (case hg => rfl); (case hr => first | (go_simp; done) | (go_simp; rfl)); intro gb101 hg w26 hbox hb; have BK101 := am (hbox); have GW101 := am ((by rw [hg]; exact (below_size (by repeat (first | (with_reducible first | exact HB.out | apply lA | apply lN | apply lD) | exact HB.out))) : w.heap.size ≤ gb101)); have GE101 := am ((by rw [hg]; exact (below_size (by repeat (first | (with_reducible first | exact HB.out | apply lA | apply lN | apply lD) | exact HB.out))) : w.heap.size ≤ gb101)); replace HB := am (below_step (by repeat (first | (with_reducible first | exact HB.out | apply lA | apply lN | apply lD) | exact HB.out)) hb); clear hb hbox hg; have hcz27_0 : w26.cell? ⟨gb101, 0, none⟩ = some (.int .i64 a0_0) := (blk_cell BK101.out 0).trans rfl; have hcz27_1 : w26.cell? ⟨gb101, 1, none⟩ = some (.string a0_1) := (blk_cell BK101.out 1).trans rfl; have hcz27_2 : w26.cell? ⟨gb101, 2, none⟩ = some (.string a0_2) := (blk_cell BK101.out 2).trans rfl; have hcz27_3 : w26.cell? ⟨gb101, 3, none⟩ = some (.string a0_3) := (blk_cell BK101.out 3).trans rfl; have hcz27_4 : w26.cell? ⟨gb101, 4, none⟩ = some (.string a0_4) := (blk_cell BK101.out 4).trans rfl; have hcz27_5 : w26.cell? ⟨gb101, 5, none⟩ = some (.int .i64 a0_5) := (blk_cell BK101.out 5).trans rfl; have hcz27_6 : w26.cell? ⟨gb101, 6, none⟩ = some (.int .i64 a0_6) := (blk_cell BK101.out 6).trans rfl; have hcz27_7 : w26.cell? ⟨gb101, 7, none⟩ = some (.int .i64 a0_7) := (blk_cell BK101.out 7).trans rfl; have hfz27_0 := blk_frozen BK101.out 0; have hfz27_1 := blk_frozen BK101.out 1; have hfz27_2 := blk_frozen BK101.out 2; have hfz27_3 := blk_frozen BK101.out 3; have hfz27_4 := blk_frozen BK101.out 4; have hfz27_5 := blk_frozen BK101.out 5; have hfz27_6 := blk_frozen BK101.out 6; have hfz27_7 := blk_frozen BK101.out 7) | ((with_reducible refine gate_dst (N := 32) rfl ?_); refine Kd.R_lit Kd.string _ 9 ?hg (N := 32) ?hd (xs := ([a0_2] : List ByteArray)) (inner := [.string a0_2]) (ok := fun _ => True) (okp := fun _ => True) ?hr ?hp (fun _ hk => hk) trivial (Below.refl _ _) (Nat.le_refl _) (by simp) ?_; (case hd => rfl); (case hg => rfl); (case hr => first | (go_simp; done) | (go_simp; rfl)); (case hp => exact (Reps.one (show Kd.M Kd.string _ _ _ a0_2 [.string a0_2] from rfl) (Reps.none _ _))); intro v118 w28 ho29 hb hg_ hnew_; clear hg_ hnew_; (first | rw [← Ny117.out] at ho29 | (simp only [Int.reduceToNat] at ho29; rw [← Ny117.out] at ho29)); have HO119 := am (Kd.R_lower ho29 (below_size (by repeat (first | (with_reducible first | exact HB.out | apply lA | apply lN | apply lD | refine lS ?_ GE101.out) | exact HB.out)))); replace BK101 := am (blk_below (g := gb101) (o := .cells #[.int .i64 a0_0, .string a0_1, .string a0_2, .string a0_3, .string a0_4, .int .i64 a0_5, .int .i64 a0_6, .int .i64 a0_7] 30 (0, 0)) (by (with_reducible repeat (first | refine bN ?_ _ | refine bD ?_ | refine bA ?_ _)); exact BK101.out) hb); replace HB := am (below_step (by repeat (first | (with_reducible first | exact HB.out | apply lA | apply lN | apply lD | refine lS ?_ GE101.out) | exact HB.out)) hb); clear hb ho29))
      go_ret
      exact ⟨_, by first | rfl | (simp [errW_none, errW_some] <;> rfl) | (simp [*, errW_none, errW_some] <;> rfl), by (with_reducible repeat (first | apply Ra | apply Rn | apply Rd)); exact HO119.out, by repeat (first | (with_reducible first | exact HB.out | apply lA | apply lN | apply lD | refine lS ?_ GE101.out) | exact HB.out)⟩
     ·rw [if_neg c25] at H
      have c25b0 : (a0_0 == 7) = false := beq_eq_false_iff_ne.mpr c25
      have c25b1 : (a0_0 != 7) = true := bne_iff_ne.mpr c25
      obtain rfl := Option.some.inj H
      go_enter Try.func30, Try.ntmps30
      go_wp2_with (first | ((with_reducible refine gate_dst (N := 1) rfl ?_); refine box_event ?hg (N := 1) ?hd (cs := #[.int .i64 a0_0, .string a0_1, .string a0_2, .string a0_3, .string a0_4, .int .i64 a0_5, .int .i64 a0_6, .int .i64 a0_7]) (t := 30) ?hr ?_; (case hd => rfl); (case hg => rfl); (case hr => first | (go_simp; done) | (go_simp; rfl)); intro gb101 hg w30 hbox hb; have BK101 := am (hbox); have GW101 := am ((by rw [hg]; exact (below_size (by repeat (first | (with_reducible first | exact HB.out | apply lA | apply lN | apply lD) | exact HB.out))) : w.heap.size ≤ gb101)); have GE101 := am ((by rw [hg]; exact (below_size (by repeat (first | (with_reducible first | exact HB.out | apply lA | apply lN | apply lD) | exact HB.out))) : w.heap.size ≤ gb101)); replace HB := am (below_step (by repeat (first | (with_reducible first | exact HB.out | apply lA | apply lN | apply lD) | exact HB.out)) hb); clear hb hbox hg; have hcz31_0 : w30.cell? ⟨gb101, 0, none⟩ = some (.int .i64 a0_0) := (blk_cell BK101.out 0).trans rfl; have hcz31_1 : w30.cell? ⟨gb101, 1, none⟩ = some (.string a0_1) := (blk_cell BK101.out 1).trans rfl; have hcz31_2 : w30.cell? ⟨gb101, 2, none⟩ = some (.string a0_2) := (blk_cell BK101.out 2).trans rfl; have hcz31_3 : w30.cell? ⟨gb101, 3, none⟩ = some (.string a0_3) := (blk_cell BK101.out 3).trans rfl; have hcz31_4 : w30.cell? ⟨gb101, 4, none⟩ = some (.string a0_4) := (blk_cell BK101.out 4).trans rfl; have hcz31_5 : w30.cell? ⟨gb101, 5, none⟩ = some (.int .i64 a0_5) := (blk_cell BK101.out 5).trans rfl; have hcz31_6 : w30.cell? ⟨gb101, 6, none⟩ = some (.int .i64 a0_6) := (blk_cell BK101.out 6).trans rfl; have hcz31_7 : w30.cell? ⟨gb101, 7, none⟩ = some (.int .i64 a0_7) := (blk_cell BK101.out 7).trans rfl; have hfz31_0 := blk_frozen BK101.out 0; have hfz31_1 := blk_frozen BK101.out 1; have hfz31_2 := blk_frozen BK101.out 2; have hfz31_3 := blk_frozen BK101.out 3; have hfz31_4 := blk_frozen BK101.out 4; have hfz31_5 := blk_frozen BK101.out 5; have hfz31_6 := blk_frozen BK101.out 6; have hfz31_7 := blk_frozen BK101.out 7))
      go_ret
      exact ⟨_, by first | rfl | (simp [errW_none, errW_some] <;> rfl) | (simp [*, errW_none, errW_some] <;> rfl), by first | exact Kd.R_nil _ _ _ _ _ | exact Kd.N_nil _ _ _ _ _ | exact Kd.V_nil _ _ _ _ _ | exact Kd.Q_nil _ _ _ _ _ | exact Kd.S_nil _ _ _ _ _, by repeat (first | (with_reducible first | exact HB.out | apply lA | apply lN | apply lD | refine lS ?_ GE101.out) | exact HB.out)⟩
def lambrequinref20_Def.f (a0_0 : Int) (a0_1 : ByteArray) (a0_2 : ByteArray) (a0_3 : ByteArray) (a0_4 : ByteArray) (a0_5 : Int) (a0_6 : Int) (a0_7 : Int) : Option (ByteArray × Bool) := if a0_0 ≥ 1 then (if a0_0 ≤ 5 then (some (a0_1, true)) else (some ((⟨#[]⟩ : ByteArray), false))) else (some ((⟨#[]⟩ : ByteArray), false))
set_option maxHeartbeats 8000000 in
set_option maxRecDepth 100000 in
theorem lambrequinref20_Def.calls (a0_0 : Int) (a0_1 : ByteArray) (a0_2 : ByteArray) (a0_3 : ByteArray) (a0_4 : ByteArray) (a0_5 : Int) (a0_6 : Int) (a0_7 : Int) (r1 : ByteArray) (r2 : Bool) (w : World) (h : lambrequinref20_Def.f a0_0 a0_1 a0_2 a0_3 a0_4 a0_5 a0_6 a0_7 = some (r1, r2)) :
  Calls Try.prog 25 #[.agg #[.int .i64 a0_0, .string a0_1, .string a0_2, .string a0_3, .string a0_4, .int .i64 a0_5, .int .i64 a0_6, .int .i64 a0_7]] w fun e w' => e = .returned (.tuple #[.string r1, .bool r2]) ∧ Below w.heap.size w w' := by
 have hu30 := Try.underlying30
 have HB := Aside0.mk (Below.refl w.heap.size w)
 have H : (if a0_0 ≥ 1 then (if a0_0 ≤ 5 then (some (a0_1, true)) else (some ((⟨#[]⟩ : ByteArray), false))) else (some ((⟨#[]⟩ : ByteArray), false))) = some (r1, r2) := h
 clear h
 by_cases c2 : a0_0 ≥ 1
 ·rw [if_pos c2] at H
  have c2b0 : decide (1 ≤ a0_0) = true := decide_eq_true c2
  clear c2
  by_cases c3 : a0_0 ≤ 5
  ·rw [if_pos c3] at H
   have c3b0 : decide (a0_0 ≤ 5) = true := decide_eq_true c3
   clear c3
   simp only [Option.some.injEq, Prod.mk.injEq] at H
   obtain ⟨rfl, rfl⟩ := H
   go_enter Try.func25, Try.ntmps25
   go_wp2_with (first | ((with_reducible refine gate_dst (N := 1) rfl ?_); refine box_event ?hg (N := 1) ?hd (cs := #[.int .i64 a0_0, .string a0_1, .string a0_2, .string a0_3, .string a0_4, .int .i64 a0_5, .int .i64 a0_6, .int .i64 a0_7]) (t := 30) ?hr ?_; (case hd => rfl); (case hg => rfl); (case hr => first | (go_simp; done) | (go_simp; rfl)); intro gb101 hg w4 hbox hb; have n0_ := Aside0.mk (below_step (by repeat (first | (with_reducible first | exact HB.out | apply below_alloc | apply pw_below_drewN | apply below_drew1) | exact HB.out)) hb); have n1_ := Aside0.mk (hbox); have n2_ := Aside0.mk ((by rw [hg]; exact (below_size (by repeat (first | (with_reducible first | exact HB.out | apply below_alloc | apply pw_below_drewN | apply below_drew1) | exact HB.out))) : w.heap.size ≤ gb101)); have n3_ := Aside0.mk ((by rw [hg]; exact (below_size (by repeat (first | (with_reducible first | exact HB.out | apply below_alloc | apply pw_below_drewN | apply below_drew1) | exact HB.out))) : w.heap.size ≤ gb101)); clear HB; have HB := n0_; have BK101 := n1_; have GW101 := n2_; have GE101 := n3_; clear n0_ n1_ n2_ n3_; clear hb hbox hg; have hcz5_0 : w4.cell? ⟨gb101, 0, none⟩ = some (.int .i64 a0_0) := (blk_cell BK101.out 0).trans rfl; have hcz5_1 : w4.cell? ⟨gb101, 1, none⟩ = some (.string a0_1) := (blk_cell BK101.out 1).trans rfl; have hcz5_2 : w4.cell? ⟨gb101, 2, none⟩ = some (.string a0_2) := (blk_cell BK101.out 2).trans rfl; have hcz5_3 : w4.cell? ⟨gb101, 3, none⟩ = some (.string a0_3) := (blk_cell BK101.out 3).trans rfl; have hcz5_4 : w4.cell? ⟨gb101, 4, none⟩ = some (.string a0_4) := (blk_cell BK101.out 4).trans rfl; have hcz5_5 : w4.cell? ⟨gb101, 5, none⟩ = some (.int .i64 a0_5) := (blk_cell BK101.out 5).trans rfl; have hcz5_6 : w4.cell? ⟨gb101, 6, none⟩ = some (.int .i64 a0_6) := (blk_cell BK101.out 6).trans rfl; have hcz5_7 : w4.cell? ⟨gb101, 7, none⟩ = some (.int .i64 a0_7) := (blk_cell BK101.out 7).trans rfl; have hfz5_0 := blk_frozen BK101.out 0; have hfz5_1 := blk_frozen BK101.out 1; have hfz5_2 := blk_frozen BK101.out 2; have hfz5_3 := blk_frozen BK101.out 3; have hfz5_4 := blk_frozen BK101.out 4; have hfz5_5 := blk_frozen BK101.out 5; have hfz5_6 := blk_frozen BK101.out 6; have hfz5_7 := blk_frozen BK101.out 7))
   go_ret2
   exact ⟨by first | rfl | (simp [errW_none, errW_some] <;> rfl) | (simp [*, errW_none, errW_some] <;> rfl), by repeat (first | (with_reducible first | exact HB.out | apply below_alloc | apply pw_below_drewN | apply below_drew1 | refine below_set ?_ GE101.out) | exact HB.out)⟩
  ·rw [if_neg c3] at H
   have c3b0 : decide (a0_0 ≤ 5) = false := decide_eq_false c3
   clear c3
   simp only [Option.some.injEq, Prod.mk.injEq] at H
   obtain ⟨rfl, rfl⟩ := H
   go_enter Try.func25, Try.ntmps25
   go_wp2_with (first | ((with_reducible refine gate_dst (N := 1) rfl ?_); refine box_event ?hg (N := 1) ?hd (cs := #[.int .i64 a0_0, .string a0_1, .string a0_2, .string a0_3, .string a0_4, .int .i64 a0_5, .int .i64 a0_6, .int .i64 a0_7]) (t := 30) ?hr ?_; (case hd => rfl); (case hg => rfl); (case hr => first | (go_simp; done) | (go_simp; rfl)); intro gb101 hg w6 hbox hb; have n0_ := Aside0.mk (below_step (by repeat (first | (with_reducible first | exact HB.out | apply below_alloc | apply pw_below_drewN | apply below_drew1) | exact HB.out)) hb); have n1_ := Aside0.mk (hbox); have n2_ := Aside0.mk ((by rw [hg]; exact (below_size (by repeat (first | (with_reducible first | exact HB.out | apply below_alloc | apply pw_below_drewN | apply below_drew1) | exact HB.out))) : w.heap.size ≤ gb101)); have n3_ := Aside0.mk ((by rw [hg]; exact (below_size (by repeat (first | (with_reducible first | exact HB.out | apply below_alloc | apply pw_below_drewN | apply below_drew1) | exact HB.out))) : w.heap.size ≤ gb101)); clear HB; have HB := n0_; have BK101 := n1_; have GW101 := n2_; have GE101 := n3_; clear n0_ n1_ n2_ n3_; clear hb hbox hg; have hcz7_0 : w6.cell? ⟨gb101, 0, none⟩ = some (.int .i64 a0_0) := (blk_cell BK101.out 0).trans rfl; have hcz7_1 : w6.cell? ⟨gb101, 1, none⟩ = some (.string a0_1) := (blk_cell BK101.out 1).trans rfl; have hcz7_2 : w6.cell? ⟨gb101, 2, none⟩ = some (.string a0_2) := (blk_cell BK101.out 2).trans rfl; have hcz7_3 : w6.cell? ⟨gb101, 3, none⟩ = some (.string a0_3) := (blk_cell BK101.out 3).trans rfl; have hcz7_4 : w6.cell? ⟨gb101, 4, none⟩ = some (.string a0_4) := (blk_cell BK101.out 4).trans rfl; have hcz7_5 : w6.cell? ⟨gb101, 5, none⟩ = some (.int .i64 a0_5) := (blk_cell BK101.out 5).trans rfl; have hcz7_6 : w6.cell? ⟨gb101, 6, none⟩ = some (.int .i64 a0_6) := (blk_cell BK101.out 6).trans rfl; have hcz7_7 : w6.cell? ⟨gb101, 7, none⟩ = some (.int .i64 a0_7) := (blk_cell BK101.out 7).trans rfl; have hfz7_0 := blk_frozen BK101.out 0; have hfz7_1 := blk_frozen BK101.out 1; have hfz7_2 := blk_frozen BK101.out 2; have hfz7_3 := blk_frozen BK101.out 3; have hfz7_4 := blk_frozen BK101.out 4; have hfz7_5 := blk_frozen BK101.out 5; have hfz7_6 := blk_frozen BK101.out 6; have hfz7_7 := blk_frozen BK101.out 7))
   go_ret2
   exact ⟨by first | rfl | (simp [errW_none, errW_some] <;> rfl) | (simp [*, errW_none, errW_some] <;> rfl), by repeat (first | (with_reducible first | exact HB.out | apply below_alloc | apply pw_below_drewN | apply below_drew1 | refine below_set ?_ GE101.out) | exact HB.out)⟩
 ·rw [if_neg c2] at H
  have c2b0 : decide (1 ≤ a0_0) = false := decide_eq_false c2
  clear c2
  simp only [Option.some.injEq, Prod.mk.injEq] at H
  obtain ⟨rfl, rfl⟩ := H
  go_enter Try.func25, Try.ntmps25
  go_wp2_with (first | ((with_reducible refine gate_dst (N := 1) rfl ?_); refine box_event ?hg (N := 1) ?hd (cs := #[.int .i64 a0_0, .string a0_1, .string a0_2, .string a0_3, .string a0_4, .int .i64 a0_5, .int .i64 a0_6, .int .i64 a0_7]) (t := 30) ?hr ?_; (case hd => rfl); (case hg => rfl); (case hr => first | (go_simp; done) | (go_simp; rfl)); intro gb101 hg w8 hbox hb; have n0_ := Aside0.mk (below_step (by repeat (first | (with_reducible first | exact HB.out | apply below_alloc | apply pw_below_drewN | apply below_drew1) | exact HB.out)) hb); have n1_ := Aside0.mk (hbox); have n2_ := Aside0.mk ((by rw [hg]; exact (below_size (by repeat (first | (with_reducible first | exact HB.out | apply below_alloc | apply pw_below_drewN | apply below_drew1) | exact HB.out))) : w.heap.size ≤ gb101)); have n3_ := Aside0.mk ((by rw [hg]; exact (below_size (by repeat (first | (with_reducible first | exact HB.out | apply below_alloc | apply pw_below_drewN | apply below_drew1) | exact HB.out))) : w.heap.size ≤ gb101)); clear HB; have HB := n0_; have BK101 := n1_; have GW101 := n2_; have GE101 := n3_; clear n0_ n1_ n2_ n3_; clear hb hbox hg; have hcz9_0 : w8.cell? ⟨gb101, 0, none⟩ = some (.int .i64 a0_0) := (blk_cell BK101.out 0).trans rfl; have hcz9_1 : w8.cell? ⟨gb101, 1, none⟩ = some (.string a0_1) := (blk_cell BK101.out 1).trans rfl; have hcz9_2 : w8.cell? ⟨gb101, 2, none⟩ = some (.string a0_2) := (blk_cell BK101.out 2).trans rfl; have hcz9_3 : w8.cell? ⟨gb101, 3, none⟩ = some (.string a0_3) := (blk_cell BK101.out 3).trans rfl; have hcz9_4 : w8.cell? ⟨gb101, 4, none⟩ = some (.string a0_4) := (blk_cell BK101.out 4).trans rfl; have hcz9_5 : w8.cell? ⟨gb101, 5, none⟩ = some (.int .i64 a0_5) := (blk_cell BK101.out 5).trans rfl; have hcz9_6 : w8.cell? ⟨gb101, 6, none⟩ = some (.int .i64 a0_6) := (blk_cell BK101.out 6).trans rfl; have hcz9_7 : w8.cell? ⟨gb101, 7, none⟩ = some (.int .i64 a0_7) := (blk_cell BK101.out 7).trans rfl; have hfz9_0 := blk_frozen BK101.out 0; have hfz9_1 := blk_frozen BK101.out 1; have hfz9_2 := blk_frozen BK101.out 2; have hfz9_3 := blk_frozen BK101.out 3; have hfz9_4 := blk_frozen BK101.out 4; have hfz9_5 := blk_frozen BK101.out 5; have hfz9_6 := blk_frozen BK101.out 6; have hfz9_7 := blk_frozen BK101.out 7))
  go_ret2
  exact ⟨by first | rfl | (simp [errW_none, errW_some] <;> rfl) | (simp [*, errW_none, errW_some] <;> rfl), by repeat (first | (with_reducible first | exact HB.out | apply below_alloc | apply pw_below_drewN | apply below_drew1 | refine below_set ?_ GE101.out) | exact HB.out)⟩
def lambrequinref20_Names.l0 : Nat → List (Stmt) → List ByteArray → Int → Option (List ByteArray)
 | 0, _, _, _ => none
 | k + 1, x0, x3, x4 => if x4 < (x0.length : Int) then (if 0 ≤ x4 then ((lambrequinref20_Def.f ((rd_T30 x0 x4).kind) ((rd_T30 x0 x4).x) ((rd_T30 x0 x4).y) ((rd_T30 x0 x4).z) ((rd_T30 x0 x4).op) ((rd_T30 x0 x4).n) ((rd_T30 x0 x4).a) ((rd_T30 x0 x4).b)).bind fun bt105 => (if bt105.2 = true then (if x3.length < 8796093022208 then ((some (x3 ++ [bt105.1] : List ByteArray)).bind fun y107 => ((lambrequinref20_Uses.f k ((rd_T30 x0 x4).kind) ((rd_T30 x0 x4).x) ((rd_T30 x0 x4).y) ((rd_T30 x0 x4).z) ((rd_T30 x0 x4).op) ((rd_T30 x0 x4).n) ((rd_T30 x0 x4).a) ((rd_T30 x0 x4).b)).bind fun t111 => (if y107.length + t111.length < 8796093022208 then (lambrequinref20_Names.l0 k x0 (y107 ++ t111) (wrap64 (x4 + 1))) else (none)))) else (none)) else ((lambrequinref20_Uses.f k ((rd_T30 x0 x4).kind) ((rd_T30 x0 x4).x) ((rd_T30 x0 x4).y) ((rd_T30 x0 x4).z) ((rd_T30 x0 x4).op) ((rd_T30 x0 x4).n) ((rd_T30 x0 x4).a) ((rd_T30 x0 x4).b)).bind fun t118 => (if x3.length + t118.length < 8796093022208 then (lambrequinref20_Names.l0 k x0 (x3 ++ t118) (wrap64 (x4 + 1))) else (none))))) else (none)) else ((lambrequinref09_Sorted.f k x3).bind fun t101 => (some t101))
def lambrequinref20_Names.f (k : Nat) (l0 : List (Stmt)) : Option (List ByteArray) := lambrequinref20_Names.l0 k l0 ([] : List ByteArray) 0
theorem lambrequinref20_Names.mono_l : ∀ k, (∀ y0 y1 y2, LeO (lambrequinref20_Names.l0 k y0 y1 y2) (lambrequinref20_Names.l0 (k + 1) y0 y1 y2))
 | 0 => fun _ _ _ r h => by simp [lambrequinref20_Names.l0] at h
 | k + 1 => by
  have ih0 := lambrequinref20_Names.mono_l k
  ·intro y0 y1 y2
   unfold lambrequinref20_Names.l0
   repeat' first
   | (with_reducible exact ih0 _ _ _)
   | (with_reducible exact lambrequinref09_Sorted.mono _ _)
   | (with_reducible exact lambrequinref20_Uses.mono _ _ _ _ _ _ _ _ _)
   | (with_reducible exact LeO.refl _)
   | (with_reducible exact LeO.none _)
   | (with_reducible refine LeO.ite ?_ ?_)
   | (with_reducible refine LeO.bind ?_ (fun _ => ?_))
   | exact ih0 _ _ _
   | exact lambrequinref09_Sorted.mono _ _
   | exact lambrequinref20_Uses.mono _ _ _ _ _ _ _ _ _
   | exact LeO.none _
   | refine LeO.ite ?_ ?_
   | refine LeO.bind ?_ (fun _ => ?_)
theorem lambrequinref20_Names.mono : ∀ a0 k, LeO (lambrequinref20_Names.f k a0) (lambrequinref20_Names.f (k + 1) a0) := by
 intro a0 k
 have ih0 := lambrequinref20_Names.mono_l k
 unfold lambrequinref20_Names.f
 repeat' first
   | (with_reducible exact ih0 _ _ _)
   | (with_reducible exact lambrequinref09_Sorted.mono _ _)
   | (with_reducible exact lambrequinref20_Uses.mono _ _ _ _ _ _ _ _ _)
   | (with_reducible exact LeO.refl _)
   | (with_reducible exact LeO.none _)
   | (with_reducible refine LeO.ite ?_ ?_)
   | (with_reducible refine LeO.bind ?_ (fun _ => ?_))
   | exact ih0 _ _ _
   | exact lambrequinref09_Sorted.mono _ _
   | exact lambrequinref20_Uses.mono _ _ _ _ _ _ _ _ _
   | exact LeO.none _
   | refine LeO.ite ?_ ?_
   | refine LeO.bind ?_ (fun _ => ?_)
set_option maxHeartbeats 8000000 in
set_option maxRecDepth 100000 in
theorem lambrequinref20_Names.calls (k : Nat) (A0 : Option Addr) (c0 : Nat) (l0 : List (Stmt)) (r : List ByteArray) (w : World) (hr0 : Kd.C k30 w A0 l0.length l0) (hc0 : l0.length ≤ c0) (h : lambrequinref20_Names.f k l0 = some r) :
  Calls Try.prog 32 #[.slice A0 l0.length c0] w fun e w' => ∃ v0_ : Value, e = .returned (v0_) ∧ Kd.R Kd.string 9 w' w.heap.size (fun _ => True) v0_ r ∧ Below w.heap.size w w' := by
 have hu30 := Try.underlying30
 have HR0 := Aside0.mk hr0
 have HC0 := Aside0.mk hc0
 clear hr0 hc0
 have HB := Aside0.mk (Below.refl w.heap.size w)
 have H : (lambrequinref20_Names.l0 k l0 ([] : List ByteArray) 0) = some r := h
 clear h
 have H' := Aside0.mk H
 clear H
 go_enter Try.func32, Try.ntmps32
 go_wp2
 go_loopg [3, 4] k (fun kq v3 v4 w' => ∃ (x3_1 : List ByteArray) (x4_1 : Int), v4 = .int .i64 x4_1 ∧ Aside0 (lambrequinref20_Names.l0 kq l0 x3_1 x4_1 = some r) ∧ Aside0 (kq ≤ k) ∧ Aside0 (Kd.R Kd.string 9 w' w.heap.size (fun _ => True) v3 x3_1) ∧ Aside0 (Below w.heap.size w w'))
 case atStart => exact ⟨(([] : List ByteArray)), (0), (by first | rfl | (simp; done) | (simp [*]; done)), H', ⟨Nat.le_refl _⟩, ⟨by first | exact Kd.R_nil _ _ _ _ _ | exact Kd.N_nil _ _ _ _ _ | exact Kd.V_nil _ _ _ _ _ | exact Kd.Q_nil _ _ _ _ _ | exact Kd.S_nil _ _ _ _ _⟩, ⟨by repeat (first | (with_reducible first | exact HB.out | apply below_alloc | apply pw_below_drewN | apply below_drew1) | exact HB.out)⟩⟩
 case round =>
  clear H'
  obtain ⟨x3_1, x4_1, rfl, HA, HK1, HO_3, HB⟩ := hrel
  cases gk with
  | zero => exact absurd HA.out (by simp [lambrequinref20_Names.l0])
  | succ k1 =>
   have H := HA.out
   clear HA
   simp only [lambrequinref20_Names.l0] at H
   by_cases c2 : x4_1 < (l0.length : Int)
   ·rw [if_pos c2] at H
    have c2b0 : decide (x4_1 < (l0.length : Int)) = true := decide_eq_true c2
    clear c2
    by_cases c3 : 0 ≤ x4_1
    ·rw [if_pos c3] at H
     have c3b0 : decide (0 ≤ x4_1) = true := decide_eq_true c3
     clear c3
     replace H := Option.bind_eq_some_iff.mp H
     obtain ⟨⟨t105, t106⟩, A40, H⟩ := H
     replace H : (if t106 = true then (if x3_1.length < 8796093022208 then ((some (x3_1 ++ [t105] : List ByteArray)).bind fun y107 => ((lambrequinref20_Uses.f k1 ((rd_T30 l0 x4_1).kind) ((rd_T30 l0 x4_1).x) ((rd_T30 l0 x4_1).y) ((rd_T30 l0 x4_1).z) ((rd_T30 l0 x4_1).op) ((rd_T30 l0 x4_1).n) ((rd_T30 l0 x4_1).a) ((rd_T30 l0 x4_1).b)).bind fun t111 => (if y107.length + t111.length < 8796093022208 then (lambrequinref20_Names.l0 k1 l0 (y107 ++ t111) (wrap64 (x4_1 + 1))) else (none)))) else (none)) else ((lambrequinref20_Uses.f k1 ((rd_T30 l0 x4_1).kind) ((rd_T30 l0 x4_1).x) ((rd_T30 l0 x4_1).y) ((rd_T30 l0 x4_1).z) ((rd_T30 l0 x4_1).op) ((rd_T30 l0 x4_1).n) ((rd_T30 l0 x4_1).a) ((rd_T30 l0 x4_1).b)).bind fun t118 => (if x3_1.length + t118.length < 8796093022208 then (lambrequinref20_Names.l0 k1 l0 (x3_1 ++ t118) (wrap64 (x4_1 + 1))) else (none)))) = some r := H
     have A4 := Aside0.mk A40
     clear A40
     by_cases c5 : t106 = true
     ·subst c5
      have H1 : (if x3_1.length < 8796093022208 then ((some (x3_1 ++ [t105] : List ByteArray)).bind fun y107 => ((lambrequinref20_Uses.f k1 ((rd_T30 l0 x4_1).kind) ((rd_T30 l0 x4_1).x) ((rd_T30 l0 x4_1).y) ((rd_T30 l0 x4_1).z) ((rd_T30 l0 x4_1).op) ((rd_T30 l0 x4_1).n) ((rd_T30 l0 x4_1).a) ((rd_T30 l0 x4_1).b)).bind fun t111 => (if y107.length + t111.length < 8796093022208 then (lambrequinref20_Names.l0 k1 l0 (y107 ++ t111) (wrap64 (x4_1 + 1))) else (none)))) else (none)) = some r := by rw [if_pos rfl] at H; exact H
      clear H
      have H := H1
      clear H1
      by_cases c6 : x3_1.length < 8796093022208
      ·rw [if_pos c6] at H
       have LMc6 := Aside0.mk c6
       clear c6
       obtain ⟨y107, hy107⟩ : ∃ y_ : List ByteArray, y_ = (x3_1 ++ [t105]) := ⟨_, rfl⟩
       replace H : ((lambrequinref20_Uses.f k1 ((rd_T30 l0 x4_1).kind) ((rd_T30 l0 x4_1).x) ((rd_T30 l0 x4_1).y) ((rd_T30 l0 x4_1).z) ((rd_T30 l0 x4_1).op) ((rd_T30 l0 x4_1).n) ((rd_T30 l0 x4_1).a) ((rd_T30 l0 x4_1).b)).bind fun t111 => (if y107.length + t111.length < 8796093022208 then (lambrequinref20_Names.l0 k1 l0 (y107 ++ t111) (wrap64 (x4_1 + 1))) else (none))) = some r := by first | (rw [hy107]; with_reducible exact H) | (have H2_ := (Option.bind_some _ _).symm.trans H; rw [hy107]; with_reducible exact H2_) | (have H2_ := (Option.bind_some _ _).symm.trans H; with_reducible exact H2_) | with_reducible exact H | (rw [hy107]; exact H) | exact H
       have Ny107 := Aside0.mk hy107
       clear hy107
       replace H := Option.bind_eq_some_iff.mp H
       obtain ⟨t111, A70, H⟩ := H
       replace H : (if y107.length + t111.length < 8796093022208 then (lambrequinref20_Names.l0 k1 l0 (y107 ++ t111) (wrap64 (x4_1 + 1))) else (none)) = some r := H
       have A7 := Aside0.mk A70
       clear A70
       by_cases c8 : y107.length + t111.length < 8796093022208
       ·rw [if_pos c8] at H
        have LMc8 := Aside0.mk c8
        clear c8
        obtain ⟨y114, hy114⟩ : ∃ y_ : List ByteArray, y_ = (y107 ++ t111) := ⟨_, rfl⟩
        replace H : (lambrequinref20_Names.l0 k1 l0 y114 (wrap64 (x4_1 + 1))) = some r := by first | (rw [hy114]; with_reducible exact H) | (have H2_ := (Option.bind_some _ _).symm.trans H; rw [hy114]; with_reducible exact H2_) | (have H2_ := (Option.bind_some _ _).symm.trans H; with_reducible exact H2_) | with_reducible exact H | (rw [hy114]; exact H) | exact H
        have Ny114 := Aside0.mk hy114
        clear hy114
        have H' := Aside0.mk H
        clear H
        have p104 : 0 ≤ (x4_1 : Int) := of_decide_eq_true (by first | (with_reducible assumption) | assumption)
        have q104 : x4_1 < (l0.length : Int) := of_decide_eq_true (by first | (with_reducible assumption) | assumption)
        obtain ⟨ad104, e104, hx104_0, hx104_1, hx104_2, hx104_3, hx104_4, hx104_5, hx104_6, hx104_7⟩ := at_T30 HR0.out x4_1 p104 q104
        cases e104
        replace hx104_0 := (HB.out.cell (blt_ hx104_0)).trans hx104_0
        replace hx104_1 := (HB.out.cell (blt_ hx104_1)).trans hx104_1
        replace hx104_2 := (HB.out.cell (blt_ hx104_2)).trans hx104_2
        replace hx104_3 := (HB.out.cell (blt_ hx104_3)).trans hx104_3
        replace hx104_4 := (HB.out.cell (blt_ hx104_4)).trans hx104_4
        replace hx104_5 := (HB.out.cell (blt_ hx104_5)).trans hx104_5
        replace hx104_6 := (HB.out.cell (blt_ hx104_6)).trans hx104_6
        replace hx104_7 := (HB.out.cell (blt_ hx104_7)).trans hx104_7
        replace p104 := eq_true p104
        replace q104 := eq_true q104
        go_wp2_with (first | ((with_reducible refine gate_callee (f := 25) rfl ?_); refine goesL_ (some 18) rfl rfl Try.func25 (by kernel_rfl) rfl #[.agg #[.int .i64 ((rd_T30 l0 x4_1).kind), .string ((rd_T30 l0 x4_1).x), .string ((rd_T30 l0 x4_1).y), .string ((rd_T30 l0 x4_1).z), .string ((rd_T30 l0 x4_1).op), .int .i64 ((rd_T30 l0 x4_1).n), .int .i64 ((rd_T30 l0 x4_1).a), .int .i64 ((rd_T30 l0 x4_1).b)]] rfl (by (try simp only [List.map_toArray, List.map_cons, List.map_nil]); first | done | rfl | (simp only [List.length_drop, List.length_take]; rfl)) ?_; (with_reducible refine (lambrequinref20_Def.calls ((rd_T30 l0 x4_1).kind) ((rd_T30 l0 x4_1).x) ((rd_T30 l0 x4_1).y) ((rd_T30 l0 x4_1).z) ((rd_T30 l0 x4_1).op) ((rd_T30 l0 x4_1).n) ((rd_T30 l0 x4_1).a) ((rd_T30 l0 x4_1).b) t105 true _ A4.out).mono ?_); rintro e w9 ⟨rfl, hb⟩; refine ⟨_, rfl, ?_⟩; have n0_ := Aside0.mk (Kd.R_below (by (with_reducible repeat (first | apply Kd.R_alloc | apply Kd.R_drewN | apply Kd.R_drew)); exact HO_3.out) hb); have n1_ := Aside0.mk (below_step (by repeat (first | (with_reducible first | exact HB.out | apply below_alloc | apply pw_below_drewN | apply below_drew1) | exact HB.out)) hb); clear HO_3; clear HB; have HO_3 := n0_; have HB := n1_; clear n0_ n1_; (try clear hb); (try clear hb2); (try clear hk); (try clear hi)) | ((with_reducible refine gate_builtin (b := .append) (xs := #[.tmp 22, .tmp 24]) rfl ?_); at_builtin; refine Kd.R_append Kd.string (w0 := w) w.heap.size rfl (.tmp 22) (.tmp 24) 32 9 (.string ⟨#[]⟩) 16 rfl Try.underlying32 info9 rfl (by decide) (by omega) u3 x3_1 t105 [.string t105] (fun _ => True) (fun _ => False) rfl rfl ?aP (fun _ hk => hk.elim) ?aF ?aO ?aB ?aS ?aL ?_; (case aP => exact rfl); (case aB => exact (by repeat (first | (with_reducible first | exact HB.out | apply below_alloc | apply pw_below_drewN | apply below_drew1) | exact HB.out))); (case aF => exact (fun _ _ => trivial)); (case aO => exact (by (with_reducible repeat (first | apply Kd.R_alloc | apply Kd.R_drewN | apply Kd.R_drew)); exact HO_3.out)); (case aS => exact (below_size (by repeat (first | (with_reducible first | exact HB.out | apply below_alloc | apply pw_below_drewN | apply below_drew1) | exact HB.out)))); (case aL => have := LMc6.out; omega); intro v108 w10 ho hb hg hat; rw [← Ny107.out] at ho; have n0_ := Aside0.mk (hb); have n1_ := Aside0.mk (ho); clear HB; clear HO_3; have HB := n0_; have HO109 := n1_; clear n0_ n1_; clear ho hb hg hat; have p110 : 0 ≤ (x4_1 : Int) := of_decide_eq_true (by first | (with_reducible assumption) | assumption); have q110 : x4_1 < (l0.length : Int) := of_decide_eq_true (by first | (with_reducible assumption) | assumption); obtain ⟨ad110, e110, hx110_0, hx110_1, hx110_2, hx110_3, hx110_4, hx110_5, hx110_6, hx110_7⟩ := at_T30 HR0.out x4_1 p110 q110; obtain rfl : ad104 = ad110 := (by injection e110); replace hx110_0 := (HB.out.cell (blt_ hx110_0)).trans hx110_0; replace hx110_1 := (HB.out.cell (blt_ hx110_1)).trans hx110_1; replace hx110_2 := (HB.out.cell (blt_ hx110_2)).trans hx110_2; replace hx110_3 := (HB.out.cell (blt_ hx110_3)).trans hx110_3; replace hx110_4 := (HB.out.cell (blt_ hx110_4)).trans hx110_4; replace hx110_5 := (HB.out.cell (blt_ hx110_5)).trans hx110_5; replace hx110_6 := (HB.out.cell (blt_ hx110_6)).trans hx110_6; replace hx110_7 := (HB.out.cell (blt_ hx110_7)).trans hx110_7; replace p110 := eq_true p110; replace q110 := eq_true q110) | ((with_reducible refine gate_callee (f := 30) rfl ?_); refine goesL_ (some 31) rfl rfl Try.func30 (by kernel_rfl) rfl #[.agg #[.int .i64 ((rd_T30 l0 x4_1).kind), .string ((rd_T30 l0 x4_1).x), .string ((rd_T30 l0 x4_1).y), .string ((rd_T30 l0 x4_1).z), .string ((rd_T30 l0 x4_1).op), .int .i64 ((rd_T30 l0 x4_1).n), .int .i64 ((rd_T30 l0 x4_1).a), .int .i64 ((rd_T30 l0 x4_1).b)]] rfl (by (try simp only [List.map_toArray, List.map_cons, List.map_nil]); first | done | rfl | (simp only [List.length_drop, List.length_take]; rfl)) ?_; (with_reducible refine (lambrequinref20_Uses.calls k1 ((rd_T30 l0 x4_1).kind) ((rd_T30 l0 x4_1).x) ((rd_T30 l0 x4_1).y) ((rd_T30 l0 x4_1).z) ((rd_T30 l0 x4_1).op) ((rd_T30 l0 x4_1).n) ((rd_T30 l0 x4_1).a) ((rd_T30 l0 x4_1).b) t111 _ A7.out).mono ?_); rintro e w11 ⟨v112, rfl, ho0, hb⟩; refine ⟨_, rfl, ?_⟩; have n0_ := Aside0.mk (Kd.R_elder' (by (with_reducible repeat (first | apply Kd.R_alloc | apply Kd.R_drewN | apply Kd.R_drew)); exact HO109.out) (Kd.R_base ho0) hb); have n1_ := Aside0.mk (Kd.R_lower (Kd.R_new' ho0 (Kd.R_lt (by (with_reducible repeat (first | apply Kd.R_alloc | apply Kd.R_drewN | apply Kd.R_drew)); exact HO109.out))) (below_size (by repeat (first | (with_reducible first | exact HB.out | apply below_alloc | apply pw_below_drewN | apply below_drew1) | exact HB.out)))); have n2_ := Aside0.mk (below_step (by repeat (first | (with_reducible first | exact HB.out | apply below_alloc | apply pw_below_drewN | apply below_drew1) | exact HB.out)) hb); clear HO109; clear HB; have HO109 := n0_; have HO113 := n1_; have HB := n2_; clear n0_ n1_ n2_; (try clear hb); (try clear hb2); (try clear hk); (try clear hi); (try clear ho0); obtain ⟨Ao13, co13, eo13⟩ := Kd.R_slice HO113.out; subst eo13) | ((with_reducible refine gate_builtin (b := .append) (xs := #[.tmp 26, .tmp 31]) rfl ?_); at_builtin; refine Kd.R_append_rows Kd.string (w0 := w) w.heap.size rfl (.tmp 26) (.tmp 31) 32 9 (.string ⟨#[]⟩) 16 rfl Try.underlying32 info9 rfl (by decide) (by omega) v108 y107 t111 _ _ _ (fun k_ => some k_ ≠ (.slice Ao13 t111.length co13 : Value).ownBlock) (fun _ => False) rfl rfl ?aO ?aR (fun _ _ h => h) (fun _ h => h.elim) ?aF ?aB ?aS ?aL ?_; (case aR => repeat (first | exact (Kd.R_reads' HO113.out).2.2 | (with_reducible refine Kd.C_alloc ?_ _) | (with_reducible refine Kd.C_drewN ?_ _) | (with_reducible refine Kd.C_drew ?_))); (case aB => exact (by repeat (first | (with_reducible first | exact HB.out | apply below_alloc | apply pw_below_drewN | apply below_drew1) | exact HB.out))); (case aF => exact (fun k_ hk => Kd.fresh' (Kd.R_lt (by (with_reducible repeat (first | apply Kd.R_alloc | apply Kd.R_drewN | apply Kd.R_drew)); exact HO113.out)) k_ hk)); (case aO => exact (by (with_reducible repeat (first | apply Kd.R_alloc | apply Kd.R_drewN | apply Kd.R_drew)); exact Kd.R_mono HO109.out (fun _ hk => hk.2))); (case aS => exact (below_size (by repeat (first | (with_reducible first | exact HB.out | apply below_alloc | apply pw_below_drewN | apply below_drew1) | exact HB.out)))); (case aL => have := LMc8.out; omega); intro v115 w12 ho hb hg hat; rw [← Ny114.out] at ho; have n0_ := Aside0.mk (Kd.R_after (ok := (fun _ => True)) (by (with_reducible repeat (first | apply Kd.R_alloc | apply Kd.R_drewN | apply Kd.R_drew)); exact HO113.out) hg hat); have n1_ := Aside0.mk (hb); have n2_ := Aside0.mk (ho); clear HO113; clear HB; clear HO109; have HO113 := n0_; have HB := n1_; have HO116 := n2_; clear n0_ n1_ n2_; clear ho hb hg hat))
        go_roundg k1
        case measure => have := HK1.out; omega
        case rel => exact ⟨(y114), (wrap64 (x4_1 + 1)), (by first | rfl | (simp; done) | (simp [*]; done)), H', ⟨by have := HK1.out; omega⟩, ⟨by (with_reducible repeat (first | apply Kd.R_alloc | apply Kd.R_drewN | apply Kd.R_drew)); exact Kd.R_mono HO116.out (fun _ hk => trivial)⟩, ⟨by repeat (first | (with_reducible first | exact HB.out | apply below_alloc | apply pw_below_drewN | apply below_drew1) | exact HB.out)⟩⟩
       ·rw [if_neg c8] at H
        exact absurd H (by simp)
      ·rw [if_neg c6] at H
       exact absurd H (by simp)
     ·replace c5 := Bool.eq_false_iff.mpr c5
      subst c5
      have H1 : ((lambrequinref20_Uses.f k1 ((rd_T30 l0 x4_1).kind) ((rd_T30 l0 x4_1).x) ((rd_T30 l0 x4_1).y) ((rd_T30 l0 x4_1).z) ((rd_T30 l0 x4_1).op) ((rd_T30 l0 x4_1).n) ((rd_T30 l0 x4_1).a) ((rd_T30 l0 x4_1).b)).bind fun t118 => (if x3_1.length + t118.length < 8796093022208 then (lambrequinref20_Names.l0 k1 l0 (x3_1 ++ t118) (wrap64 (x4_1 + 1))) else (none))) = some r := by rw [if_neg (show ¬ (false = true) by decide)] at H; exact H
      clear H
      have H := H1
      clear H1
      replace H := Option.bind_eq_some_iff.mp H
      obtain ⟨t118, A140, H⟩ := H
      replace H : (if x3_1.length + t118.length < 8796093022208 then (lambrequinref20_Names.l0 k1 l0 (x3_1 ++ t118) (wrap64 (x4_1 + 1))) else (none)) = some r := H
      have A14 := Aside0.mk A140
      clear A140
      by_cases c15 : x3_1.length + t118.length < 8796093022208
      ·rw [if_pos c15] at H
       have LMc15 := Aside0.mk c15
       clear c15
       obtain ⟨y121, hy121⟩ : ∃ y_ : List ByteArray, y_ = (x3_1 ++ t118) := ⟨_, rfl⟩
       replace H : (lambrequinref20_Names.l0 k1 l0 y121 (wrap64 (x4_1 + 1))) = some r := by first | (rw [hy121]; with_reducible exact H) | (have H2_ := (Option.bind_some _ _).symm.trans H; rw [hy121]; with_reducible exact H2_) | (have H2_ := (Option.bind_some _ _).symm.trans H; with_reducible exact H2_) | with_reducible exact H | (rw [hy121]; exact H) | exact H
       have Ny121 := Aside0.mk hy121
       clear hy121
       have H' := Aside0.mk H
       clear H
       have p104 : 0 ≤ (x4_1 : Int) := of_decide_eq_true (by first | (with_reducible assumption) | assumption)
       have q104 : x4_1 < (l0.length : Int) := of_decide_eq_true (by first | (with_reducible assumption) | assumption)
       obtain ⟨ad104, e104, hx104_0, hx104_1, hx104_2, hx104_3, hx104_4, hx104_5, hx104_6, hx104_7⟩ := at_T30 HR0.out x4_1 p104 q104
       cases e104
       replace hx104_0 := (HB.out.cell (blt_ hx104_0)).trans hx104_0
       replace hx104_1 := (HB.out.cell (blt_ hx104_1)).trans hx104_1
       replace hx104_2 := (HB.out.cell (blt_ hx104_2)).trans hx104_2
       replace hx104_3 := (HB.out.cell (blt_ hx104_3)).trans hx104_3
       replace hx104_4 := (HB.out.cell (blt_ hx104_4)).trans hx104_4
       replace hx104_5 := (HB.out.cell (blt_ hx104_5)).trans hx104_5
       replace hx104_6 := (HB.out.cell (blt_ hx104_6)).trans hx104_6
       replace hx104_7 := (HB.out.cell (blt_ hx104_7)).trans hx104_7
       replace p104 := eq_true p104
       replace q104 := eq_true q104
       go_wp2_with (first | ((with_reducible refine gate_callee (f := 25) rfl ?_); refine goesL_ (some 18) rfl rfl Try.func25 (by kernel_rfl) rfl #[.agg #[.int .i64 ((rd_T30 l0 x4_1).kind), .string ((rd_T30 l0 x4_1).x), .string ((rd_T30 l0 x4_1).y), .string ((rd_T30 l0 x4_1).z), .string ((rd_T30 l0 x4_1).op), .int .i64 ((rd_T30 l0 x4_1).n), .int .i64 ((rd_T30 l0 x4_1).a), .int .i64 ((rd_T30 l0 x4_1).b)]] rfl (by (try simp only [List.map_toArray, List.map_cons, List.map_nil]); first | done | rfl | (simp only [List.length_drop, List.length_take]; rfl)) ?_; (with_reducible refine (lambrequinref20_Def.calls ((rd_T30 l0 x4_1).kind) ((rd_T30 l0 x4_1).x) ((rd_T30 l0 x4_1).y) ((rd_T30 l0 x4_1).z) ((rd_T30 l0 x4_1).op) ((rd_T30 l0 x4_1).n) ((rd_T30 l0 x4_1).a) ((rd_T30 l0 x4_1).b) t105 false _ A4.out).mono ?_); rintro e w16 ⟨rfl, hb⟩; refine ⟨_, rfl, ?_⟩; have n0_ := Aside0.mk (Kd.R_below (by (with_reducible repeat (first | apply Kd.R_alloc | apply Kd.R_drewN | apply Kd.R_drew)); exact HO_3.out) hb); have n1_ := Aside0.mk (below_step (by repeat (first | (with_reducible first | exact HB.out | apply below_alloc | apply pw_below_drewN | apply below_drew1) | exact HB.out)) hb); clear HO_3; clear HB; have HO_3 := n0_; have HB := n1_; clear n0_ n1_; (try clear hb); (try clear hb2); (try clear hk); (try clear hi); have p117 : 0 ≤ (x4_1 : Int) := of_decide_eq_true (by first | (with_reducible assumption) | assumption); have q117 : x4_1 < (l0.length : Int) := of_decide_eq_true (by first | (with_reducible assumption) | assumption); obtain ⟨ad117, e117, hx117_0, hx117_1, hx117_2, hx117_3, hx117_4, hx117_5, hx117_6, hx117_7⟩ := at_T30 HR0.out x4_1 p117 q117; obtain rfl : ad104 = ad117 := (by injection e117); replace hx117_0 := (HB.out.cell (blt_ hx117_0)).trans hx117_0; replace hx117_1 := (HB.out.cell (blt_ hx117_1)).trans hx117_1; replace hx117_2 := (HB.out.cell (blt_ hx117_2)).trans hx117_2; replace hx117_3 := (HB.out.cell (blt_ hx117_3)).trans hx117_3; replace hx117_4 := (HB.out.cell (blt_ hx117_4)).trans hx117_4; replace hx117_5 := (HB.out.cell (blt_ hx117_5)).trans hx117_5; replace hx117_6 := (HB.out.cell (blt_ hx117_6)).trans hx117_6; replace hx117_7 := (HB.out.cell (blt_ hx117_7)).trans hx117_7; replace p117 := eq_true p117; replace q117 := eq_true q117) | ((with_reducible refine gate_callee (f := 30) rfl ?_); refine goesL_ (some 31) rfl rfl Try.func30 (by kernel_rfl) rfl #[.agg #[.int .i64 ((rd_T30 l0 x4_1).kind), .string ((rd_T30 l0 x4_1).x), .string ((rd_T30 l0 x4_1).y), .string ((rd_T30 l0 x4_1).z), .string ((rd_T30 l0 x4_1).op), .int .i64 ((rd_T30 l0 x4_1).n), .int .i64 ((rd_T30 l0 x4_1).a), .int .i64 ((rd_T30 l0 x4_1).b)]] rfl (by (try simp only [List.map_toArray, List.map_cons, List.map_nil]); first | done | rfl | (simp only [List.length_drop, List.length_take]; rfl)) ?_; (with_reducible refine (lambrequinref20_Uses.calls k1 ((rd_T30 l0 x4_1).kind) ((rd_T30 l0 x4_1).x) ((rd_T30 l0 x4_1).y) ((rd_T30 l0 x4_1).z) ((rd_T30 l0 x4_1).op) ((rd_T30 l0 x4_1).n) ((rd_T30 l0 x4_1).a) ((rd_T30 l0 x4_1).b) t118 _ A14.out).mono ?_); rintro e w17 ⟨v119, rfl, ho0, hb⟩; refine ⟨_, rfl, ?_⟩; have n0_ := Aside0.mk (Kd.R_elder' (by (with_reducible repeat (first | apply Kd.R_alloc | apply Kd.R_drewN | apply Kd.R_drew)); exact HO_3.out) (Kd.R_base ho0) hb); have n1_ := Aside0.mk (Kd.R_lower (Kd.R_new' ho0 (Kd.R_lt (by (with_reducible repeat (first | apply Kd.R_alloc | apply Kd.R_drewN | apply Kd.R_drew)); exact HO_3.out))) (below_size (by repeat (first | (with_reducible first | exact HB.out | apply below_alloc | apply pw_below_drewN | apply below_drew1) | exact HB.out)))); have n2_ := Aside0.mk (below_step (by repeat (first | (with_reducible first | exact HB.out | apply below_alloc | apply pw_below_drewN | apply below_drew1) | exact HB.out)) hb); clear HO_3; clear HB; have HO_3 := n0_; have HO120 := n1_; have HB := n2_; clear n0_ n1_ n2_; (try clear hb); (try clear hb2); (try clear hk); (try clear hi); (try clear ho0); obtain ⟨Ao19, co19, eo19⟩ := Kd.R_slice HO120.out; subst eo19) | ((with_reducible refine gate_builtin (b := .append) (xs := #[.tmp 26, .tmp 31]) rfl ?_); at_builtin; refine Kd.R_append_rows Kd.string (w0 := w) w.heap.size rfl (.tmp 26) (.tmp 31) 32 9 (.string ⟨#[]⟩) 16 rfl Try.underlying32 info9 rfl (by decide) (by omega) u3 x3_1 t118 _ _ _ (fun k_ => some k_ ≠ (.slice Ao19 t118.length co19 : Value).ownBlock) (fun _ => False) rfl rfl ?aO ?aR (fun _ _ h => h) (fun _ h => h.elim) ?aF ?aB ?aS ?aL ?_; (case aR => repeat (first | exact (Kd.R_reads' HO120.out).2.2 | (with_reducible refine Kd.C_alloc ?_ _) | (with_reducible refine Kd.C_drewN ?_ _) | (with_reducible refine Kd.C_drew ?_))); (case aB => exact (by repeat (first | (with_reducible first | exact HB.out | apply below_alloc | apply pw_below_drewN | apply below_drew1) | exact HB.out))); (case aF => exact (fun k_ hk => Kd.fresh' (Kd.R_lt (by (with_reducible repeat (first | apply Kd.R_alloc | apply Kd.R_drewN | apply Kd.R_drew)); exact HO120.out)) k_ hk)); (case aO => exact (by (with_reducible repeat (first | apply Kd.R_alloc | apply Kd.R_drewN | apply Kd.R_drew)); exact Kd.R_mono HO_3.out (fun _ hk => hk.2))); (case aS => exact (below_size (by repeat (first | (with_reducible first | exact HB.out | apply below_alloc | apply pw_below_drewN | apply below_drew1) | exact HB.out)))); (case aL => have := LMc15.out; omega); intro v122 w18 ho hb hg hat; rw [← Ny121.out] at ho; have n0_ := Aside0.mk (Kd.R_after (ok := (fun _ => True)) (by (with_reducible repeat (first | apply Kd.R_alloc | apply Kd.R_drewN | apply Kd.R_drew)); exact HO120.out) hg hat); have n1_ := Aside0.mk (hb); have n2_ := Aside0.mk (ho); clear HO120; clear HB; clear HO_3; have HO120 := n0_; have HB := n1_; have HO123 := n2_; clear n0_ n1_ n2_; clear ho hb hg hat))
       go_roundg k1
       case measure => have := HK1.out; omega
       case rel => exact ⟨(y121), (wrap64 (x4_1 + 1)), (by first | rfl | (simp; done) | (simp [*]; done)), H', ⟨by have := HK1.out; omega⟩, ⟨by (with_reducible repeat (first | apply Kd.R_alloc | apply Kd.R_drewN | apply Kd.R_drew)); exact Kd.R_mono HO123.out (fun _ hk => trivial)⟩, ⟨by repeat (first | (with_reducible first | exact HB.out | apply below_alloc | apply pw_below_drewN | apply below_drew1) | exact HB.out)⟩⟩
      ·rw [if_neg c15] at H
       exact absurd H (by simp)
    ·rw [if_neg c3] at H
     exact absurd H (by simp)
   ·rw [if_neg c2] at H
    have c2b0 : decide (x4_1 < (l0.length : Int)) = false := decide_eq_false c2
    clear c2
    replace H := Option.bind_eq_some_iff.mp H
    obtain ⟨t101, A200, H⟩ := H
    replace H : (some t101) = some r := H
    have A20 := Aside0.mk A200
    clear A200
    obtain rfl := Option.some.inj H
    obtain ⟨Ao21, co21, eo21⟩ := Kd.R_slice HO_3.out
    subst eo21
    go_wp2_with (first | ((with_reducible refine gate_callee (f := 54) rfl ?_); refine goesL_ (some 34) rfl rfl Try.func54 (by kernel_rfl) rfl #[.slice Ao21 x3_1.length co21] rfl (by (try simp only [List.map_toArray, List.map_cons, List.map_nil]); first | done | rfl | (simp only [List.length_drop, List.length_take]; rfl)) ?_; (with_reducible refine (lambrequinref09_Sorted.calls k1 _ _ x3_1 t101 _ ?side1 ?side2 A20.out).mono ?_); (case side1 => repeat (first | exact (Kd.R_reads' HO_3.out).2.2 | (with_reducible refine Kd.C_alloc ?_ _) | (with_reducible refine Kd.C_drewN ?_ _) | (with_reducible refine Kd.C_drew ?_))); (case side2 => exact (Kd.R_reads' HO_3.out).2.1); rintro e w22 ⟨v102, rfl, ho0, hb⟩; refine ⟨_, rfl, ?_⟩; have n0_ := Aside0.mk (Kd.R_elder' (by (with_reducible repeat (first | apply Kd.R_alloc | apply Kd.R_drewN | apply Kd.R_drew)); exact HO_3.out) (Kd.R_base ho0) hb); have n1_ := Aside0.mk (Kd.R_lower (Kd.R_new' ho0 (Kd.R_lt (by (with_reducible repeat (first | apply Kd.R_alloc | apply Kd.R_drewN | apply Kd.R_drew)); exact HO_3.out))) (below_size (by repeat (first | (with_reducible first | exact HB.out | apply below_alloc | apply pw_below_drewN | apply below_drew1) | exact HB.out)))); have n2_ := Aside0.mk (below_step (by repeat (first | (with_reducible first | exact HB.out | apply below_alloc | apply pw_below_drewN | apply below_drew1) | exact HB.out)) hb); clear HO_3; clear HB; have HO_3 := n0_; have HO103 := n1_; have HB := n2_; clear n0_ n1_ n2_; (try clear hb); (try clear hb2); (try clear hk); (try clear hi); (try clear ho0)))
    go_ret
    exact ⟨_, by first | rfl | (simp [errW_none, errW_some] <;> rfl) | (simp [*, errW_none, errW_some] <;> rfl), by (with_reducible repeat (first | apply Kd.R_alloc | apply Kd.R_drewN | apply Kd.R_drew)); exact Kd.R_mono HO103.out (fun _ hk => trivial), by repeat (first | (with_reducible first | exact HB.out | apply below_alloc | apply pw_below_drewN | apply below_drew1) | exact HB.out)⟩
end Go.Proofs.Ytnepgcbgkhikkaa.H
/- the document's answers for layer 20, in plain words: where a statement leads, what it uses, all names -/
namespace Go.Proofs.Ytnepgcbgkhikkaa.H
open Go.RowKit Go.Proofs.YtnepgcbgkhikkaaW.PrintWords
def SS (l : List ByteArray) : Prop := (l.map toL).Pairwise (· < ·)
theorem SS_nodup {l : List ByteArray} (h : SS l) : (l.map toL).Nodup := List.Pairwise.imp (R := (· < ·)) (fun {a b} h => by rintro rfl; exact List.lt_irrefl a h) h
theorem SS_ext {a b : List ByteArray} (ha : SS a) (hb : SS b) (h : ∀ x, x ∈ a ↔ x ∈ b) : a = b := by
  have e : a.map toL = b.map toL := by
    refine List.Perm.eq_of_pairwise (le := (· < ·)) ?_ ha hb ((List.perm_ext_iff_of_nodup (SS_nodup ha) (SS_nodup hb)).2 fun x => ?_)
    · intro a b _ _ h1 h2
      exact absurd (List.lt_trans h1 h2) (List.lt_irrefl a)
    · rw [List.mem_map, List.mem_map]
      exact ⟨fun ⟨y, hy, e⟩ => ⟨y, (h y).1 hy, e⟩, fun ⟨y, hy, e⟩ => ⟨y, (h y).2 hy, e⟩⟩
  have := congrArg (List.map ofL) e
  rw [List.map_map, List.map_map] at this
  have e2 : (ofL ∘ toL) = (id : ByteArray → ByteArray) := by funext x; simp [ofL_toL]
  simpa [e2] using this
theorem less_iff (a b : ByteArray) : Op.bytesLess a.toList b.toList = true ↔ toL a < toL b := by
  rw [Proofs.bytesLess_eq, ByteArray.toList_eq, ByteArray.toList_eq, decide_eq_true_iff]
  rfl
theorem SS_insert {x3 : List ByteArray} {y : ByteArray} {n : Nat} (hs : SS x3) (h1 : ∀ z ∈ x3.drop n, toL y < toL z) (h2 : ∀ z ∈ x3.take n, toL z < toL y) : SS (x3.take n ++ [y] ++ x3.drop n) := by
  unfold SS at hs ⊢
  rw [← List.take_append_drop n x3, List.map_append, List.pairwise_append] at hs
  simp only [List.map_append, List.map_cons, List.map_nil, List.append_assoc, List.singleton_append]
  rw [List.pairwise_append]
  refine ⟨hs.1, List.pairwise_cons.2 ⟨fun z hz => ?_, hs.2.1⟩, fun a ha b hb => ?_⟩
  · obtain ⟨q, hq, rfl⟩ := List.mem_map.1 hz; exact h1 q hq
  · rcases List.mem_cons.1 hb with rfl | hb
    · obtain ⟨q, hq, rfl⟩ := List.mem_map.1 ha; exact h2 q hq
    · exact hs.2.2 a ha b hb
theorem Sorted_l1 (l : List ByteArray) (x3 : List ByteArray) (i : Nat) (y : ByteArray) (hl : l.length ≤ 1000000) (hx : x3.length ≤ 1000000) (hy : l[i]? = some y) (hs : SS x3) (hno : ¬ y ∈ x3) (R : List ByteArray)
    (go : ∀ x', SS x' → (∀ x, x ∈ x' ↔ x = y ∨ x ∈ x3) → x'.length = x3.length + 1 → Ev (fun k => lambrequinref09_Sorted.l0 k l x' ((i + 1 : Nat) : Int)) R) : ∀ (n : Nat), n ≤ x3.length → (∀ z ∈ x3.drop n, toL y < toL z) →
    Ev (fun k => lambrequinref09_Sorted.l1 k l x3 i n) R := by
  have hil : i < l.length := (List.getElem?_eq_some_iff.1 hy).1
  have put : ∀ n : Nat, n ≤ x3.length → (∀ z ∈ x3.drop n, toL y < toL z) → (∀ z ∈ x3.take n, toL z < toL y) → Ev (fun k => lambrequinref09_Sorted.l0 k l ([] ++ x3.take n ++ [y] ++ x3.drop n) ((i + 1 : Nat) : Int)) R := by
    intro n hn h1 h2
    rw [List.nil_append]
    refine go _ (SS_insert hs h1 h2) (fun x => ?_) (by simp; omega)
    rw [List.mem_append, List.mem_append, List.mem_singleton]
    constructor
    · rintro ((h | h) | h)
      · exact .inr (List.mem_of_mem_take h)
      · exact .inl h
      · exact .inr (List.mem_of_mem_drop h)
    · rintro (h | h)
      · exact .inl (.inr h)
      · rw [← List.take_append_drop n x3, List.mem_append] at h
        rcases h with h | h
        · exact .inl (.inl h)
        · exact .inr h
  intro n
  induction n with
  | zero =>
    intro hn h1
    refine Ev.step (fun k => by rw [lambrequinref09_Sorted.l1]) ?_
    refine Ev.neg (by omega) (Ev.pure (a := []) rfl (Ev.pos (by omega) (Ev.pos (by omega) (Ev.pure (a := x3.take 0) rfl (Ev.pos (by simp) (Ev.pure (a := [] ++ x3.take 0) rfl ?_))))))
    refine Ev.pos (by omega) (Ev.pos (by omega) (Ev.pos (by simp) (Ev.pure (a := [] ++ x3.take 0 ++ [y]) ?_ (Ev.pure (a := x3.drop 0) rfl (Ev.pos (by simp; omega) ?_)))))
    · rw [show rdOf ByteArray.empty l i = y from getD_at hy _]
    · rw [wrap_up (by omega)]
      exact put 0 hn h1 (by simp)
  | succ n ih =>
    intro hn h1
    have hw : wrap64 (((n + 1 : Nat) : Int) - 1) = (n : Int) := by unfold wrap64; omega
    have hp : x3[n]? = some (x3[n]'(by omega)) := List.getElem?_eq_getElem (by omega)
    have hpm : x3[n]'(by omega) ∈ x3 := List.getElem_mem _
    refine Ev.step (fun k => by rw [lambrequinref09_Sorted.l1, hw]) ?_
    refine Ev.pos (by omega) (Ev.pos (by omega) (Ev.pos (by omega) (Ev.pos (by omega) (Ev.pos (by omega) ?_))))
    rw [show rdOf ByteArray.empty l i = y from getD_at hy _, show rdOf ByteArray.empty x3 n = x3[n]'(by omega) from getD_at hp _]
    have hdrop : x3.drop n = x3[n]'(by omega) :: x3.drop (n + 1) := List.drop_eq_getElem_cons (by omega)
    by_cases c : toL y < toL (x3[n]'(by omega))
    · refine Ev.pos ((less_iff _ _).2 c) (ih (by omega) fun z hz => ?_)
      rw [hdrop] at hz
      rcases List.mem_cons.1 hz with rfl | hz
      · exact c
      · exact h1 z hz
    · refine Ev.neg (by rw [less_iff]; exact c) ?_
      have hlt : toL (x3[n]'(by omega)) < toL y := by
        rcases List.le_iff_lt_or_eq.1 (List.not_lt.1 c) with h | h
        · exact h
        · exact absurd (toL_inj h ▸ hpm) hno
      have h2 : ∀ z ∈ x3.take (n + 1), toL z < toL y := by
        intro z hz
        rw [List.take_add_one, hp] at hz
        rcases List.mem_append.1 hz with hz | hz
        · unfold SS at hs
          rw [← List.take_append_drop n x3, List.map_append, List.pairwise_append] at hs
          refine List.lt_trans (hs.2.2 (toL z) (List.mem_map.2 ⟨z, hz, rfl⟩) (toL (x3[n]'(by omega))) (List.mem_map.2 ⟨x3[n]'(by omega), by rw [hdrop]; exact List.mem_cons_self, rfl⟩)) hlt
        · simp at hz
          rw [hz]; exact hlt
      refine Ev.pure (a := []) rfl (Ev.pos (by omega) (Ev.pos (by omega) (Ev.pure (a := x3.take (n + 1)) rfl (Ev.pos (by simp; omega) (Ev.pure (a := [] ++ x3.take (n + 1)) rfl ?_)))))
      refine Ev.pos (by simp; omega) (Ev.pure (a := [] ++ x3.take (n + 1) ++ [y]) rfl (Ev.pure (a := x3.drop (n + 1)) rfl (Ev.pos (by simp; omega) ?_)))
      rw [wrap_up (by omega)]
      exact put (n + 1) hn h1 h2
theorem Sorted_l0 (l : List ByteArray) (hl : l.length ≤ 1000000) : ∀ (r : List ByteArray) (n : Nat) (x3 : List ByteArray), l.drop n = r → n ≤ l.length → SS x3 → (∀ x, x ∈ x3 ↔ x ∈ l.take n) → x3.length ≤ n → Ev (fun k => lambrequinref09_Sorted.l0 k l x3 n) (setS l)
  | [], n, x3, h, hn, hs, hm, hc => by
    have hz : l.length ≤ n := by
      have := congrArg List.length h
      simp at this
      omega
    refine Ev.step (fun k => by rw [lambrequinref09_Sorted.l0]) ?_
    refine Ev.neg (drop_end h) (Ev.some (SS_ext hs (setS_sorted l) fun x => ?_))
    rw [hm, List.take_of_length_le hz, mem_setS]
  | y :: r, n, x3, h, hn, hs, hm, hc => by
    obtain ⟨h1, h2, h3, h4, h5⟩ := drop_more h (by omega)
    have hy : l[n]? = some y := by
      have := congrArg (fun z => z[0]?) h
      simpa using this
    have htake : ∀ x, x ∈ l.take (n + 1) ↔ x = y ∨ x ∈ l.take n := by
      intro x
      rw [List.take_add_one, hy, List.mem_append]
      simp [or_comm]
    refine Ev.step (fun k => by rw [lambrequinref09_Sorted.l0]) ?_
    refine Ev.pos h1 (Ev.pos h2 ?_)
    rw [show rdOf ByteArray.empty l n = y from h3 _, h5]
    refine Ev.bind (In_ev x3 y (by omega)) ?_
    cases hmm : mem y x3 with
    | true =>
      have hyx := mem_iff.1 hmm
      refine Ev.pos rfl (Sorted_l0 l hl r (n + 1) x3 h4 (by omega) hs (fun x => ?_) (by omega))
      rw [htake, ← hm]
      exact ⟨.inr, fun h => by rcases h with rfl | h; exact hyx; exact h⟩
    | false =>
      refine Ev.neg (by simp) ?_
      refine Sorted_l1 l x3 n y hl (by omega) hy hs (by rw [← mem_iff, hmm]; simp) _ (fun x' hs' hm' hc' => ?_) x3.length (Nat.le_refl _) (by simp)
      refine Sorted_l0 l hl r (n + 1) x' h4 (by omega) hs' (fun x => ?_) (by omega)
      rw [htake, hm', hm]
theorem Sorted_ev (l : List ByteArray) (hl : l.length ≤ 1000000) : Ev (fun k => lambrequinref09_Sorted.f k l) (setS l) := Sorted_l0 l hl l 0 [] rfl (by omega) (by simp [SS]) (by simp) (by simp)
theorem mem_nxt {s : List Stmt} {n m : Int} : m ∈ nxt s n ↔ (0 ≤ n ∧ n < (s.length : Int)) ∧ (0 ≤ m ∧ m < (s.length : Int)) ∧ m ∈ nxtRaw (at_ s n) n := by
  unfold nxt
  split
  · rename_i h
    rw [List.mem_filter]
    simp [withinB, h, and_comm]
  · rename_i h
    simp [h]
theorem mem_raw {st : Stmt} {n m : Int} : m ∈ nxtRaw st n ↔ if st.kind = 7 then m = st.a ∨ m = st.b else if st.kind = 8 then m = st.a else if st.kind = 9 then False else m = wrap64 (n + 1) := by
  unfold nxtRaw srtI2
  repeat' split
  all_goals simp_all
  all_goals omega
theorem Leads_ev (s : List Stmt) (n m : Int) : Ev (fun k => lambrequinref20_Leads.f k s n m) (decide (m ∈ nxt s n)) := by
  unfold lambrequinref20_Leads.f
  have no : ¬ m ∈ nxt s n → Ev (fun k => lambrequinref20_Leads.j0 k s n m true) (decide (m ∈ nxt s n)) := fun h =>
    Ev.step (fun k => by rw [lambrequinref20_Leads.j0]) (Ev.pos rfl (Ev.some (by simp [h])))
  by_cases c1 : n < 0
  · exact Ev.pos c1 (no (by rw [mem_nxt]; omega))
  · refine Ev.neg c1 ?_
    by_cases c2 : n ≥ (s.length : Int)
    · exact Ev.pos c2 (no (by rw [mem_nxt]; omega))
    · refine Ev.neg c2 ?_
      by_cases c3 : m < 0
      · exact Ev.pos c3 (no (by rw [mem_nxt]; omega))
      · refine Ev.neg c3 ?_
        by_cases c4 : m ≥ (s.length : Int)
        · rw [decide_eq_true c4]; exact no (by rw [mem_nxt]; omega)
        · rw [decide_eq_false c4]
          have e : m ∈ nxt s n ↔ m ∈ nxtRaw (at_ s n) n := by rw [mem_nxt]; exact ⟨fun h => h.2.2, fun h => ⟨by omega, by omega, h⟩⟩
          rw [mem_raw] at e
          refine Ev.step (fun k => by rw [lambrequinref20_Leads.j0]) ?_
          refine Ev.neg (by simp) (Ev.pos (by omega) (Ev.pos (by omega) ?_))
          change Ev (fun k => if (at_ s n).kind = 7 then if m = (at_ s n).a then some true else some (m == (at_ s n).b) else if (at_ s n).kind = 8 then some (m == (at_ s n).a) else if (at_ s n).kind = 9 then some false else some (m == wrap64 (n + 1))) _
          by_cases k7 : (at_ s n).kind = 7
          · rw [if_pos k7] at e
            refine Ev.pos k7 ?_
            by_cases ca : m = (at_ s n).a
            · exact Ev.pos ca (Ev.some (decide_eq_true (e.2 (.inl ca))).symm)
            · refine Ev.neg ca (Ev.some ?_)
              rw [Bool.eq_iff_iff, decide_eq_true_iff, e]; simp [ca]
          · rw [if_neg k7] at e
            refine Ev.neg k7 ?_
            by_cases k8 : (at_ s n).kind = 8
            · rw [if_pos k8] at e
              exact Ev.pos k8 (Ev.some (by rw [Bool.eq_iff_iff, decide_eq_true_iff, e]; simp))
            · rw [if_neg k8] at e
              refine Ev.neg k8 ?_
              by_cases k9 : (at_ s n).kind = 9
              · rw [if_pos k9] at e
                exact Ev.pos k9 (Ev.some (by rw [Bool.eq_iff_iff, decide_eq_true_iff, e]; simp))
              · rw [if_neg k9] at e
                exact Ev.neg k9 (Ev.some (by rw [Bool.eq_iff_iff, decide_eq_true_iff, e]; simp))
theorem rDef_eq (st : Stmt) : lambrequinref20_Def.f st.kind st.x st.y st.z st.op st.n st.a st.b = some (defN st) := by
  unfold lambrequinref20_Def.f defN
  repeat' split
  all_goals first | rfl | (exfalso; omega)
theorem rUses_ev (st : Stmt) : Ev (fun k => lambrequinref20_Uses.f k st.kind st.x st.y st.z st.op st.n st.a st.b) (usesS st) := by
  unfold lambrequinref20_Uses.f usesS
  by_cases k2 : st.kind = 2
  · rw [if_pos k2]
    exact Ev.pos k2 (Ev.bind (Sorted_ev [st.y, st.z] (by simp)) (Ev.now _))
  · rw [if_neg k2]
    refine Ev.neg k2 ?_
    by_cases k3 : st.kind = 3
    · exact Ev.pos k3 (Ev.some (by rw [if_pos (.inl k3)]))
    · refine Ev.neg k3 ?_
      by_cases k5 : st.kind = 5
      · exact Ev.pos k5 (Ev.some (by rw [if_pos (.inr (.inl k5))]))
      · refine Ev.neg k5 ?_
        by_cases k6 : st.kind = 6
        · exact Ev.pos k6 (Ev.some (by rw [if_pos (.inr (.inr (.inl k6)))]))
        · refine Ev.neg k6 ?_
          by_cases k7 : st.kind = 7
          · exact Ev.pos k7 (Ev.some (by rw [if_pos (.inr (.inr (.inr k7)))]))
          · exact Ev.neg k7 (Ev.some (by rw [if_neg (by omega)]))
theorem rNames_l0 (s : List Stmt) (hs : s.length ≤ 1000) : ∀ (r : List Stmt) (n : Nat) (acc : List ByteArray), s.drop n = r → n ≤ s.length → acc.length ≤ n * 3 → Ev (fun k => lambrequinref20_Names.l0 k s acc n) (setS (acc ++ r.flatMap namesOf))
  | [], n, acc, h, hn, hc => by
    refine Ev.step (fun k => by rw [lambrequinref20_Names.l0]) ?_
    exact Ev.neg (drop_end h) (Ev.bind (Sorted_ev acc (by omega)) (Ev.some (by simp)))
  | y :: r, n, acc, h, hn, hc => by
    obtain ⟨h1, h2, h3, h4, h5⟩ := drop_more h (by omega)
    have hu := usesS_len y
    refine Ev.step (fun k => by rw [lambrequinref20_Names.l0]) ?_
    refine Ev.pos h1 (Ev.pos h2 ?_)
    rw [show rd_T30 s n = y from h3 _, h5]
    refine Ev.pure (rDef_eq y) ?_
    by_cases hd : (defN y).2 = true
    · refine Ev.pos hd (Ev.pos (by omega) (Ev.pure (a := acc ++ [(defN y).1]) rfl (Ev.bind (rUses_ev y) (Ev.pos (by simp; omega) ?_))))
      exact Ev.iff (rNames_l0 s hs r (n + 1) _ h4 (by omega) (by simp; omega)) (by simp [namesOf, hd])
    · refine Ev.neg hd (Ev.bind (rUses_ev y) (Ev.pos (by omega) ?_))
      exact Ev.iff (rNames_l0 s hs r (n + 1) _ h4 (by omega) (by simp; omega)) (by simp [namesOf, hd])
def defB (st : Stmt) (x : ByteArray) : Bool := (defN st).2 && decide ((defN st).1 = x)
theorem defB_iff {st : Stmt} {x : ByteArray} : defB st x = true ↔ (defN st).2 = true ∧ (defN st).1 = x := by simp [defB]
theorem defines_eq (st : Stmt) (x : ByteArray) : cfg_defines.f st.kind st.x st.y st.z st.op st.n st.a st.b x = some (defB st x) := by
  unfold cfg_defines.f
  rw [Def_eq]
  simp only [Option.bind_some, defB]
  cases h : (defN st).2 with
  | true =>
    rw [if_pos rfl]
    have : ((defN st).1.toList == x.toList) = decide ((defN st).1 = x) := by
      rw [Bool.eq_iff_iff]; simp [lib_ba_eq]
    simp [this]
  | false => rw [if_neg (by simp)]; rfl
def keepS (s : List Stmt) (x : ByteArray) : Int → Bool := fun m => !defB (at_ s m) x
theorem keepF_on (s : List Stmt) (x : ByteArray) (m : Int) (h0 : 0 ≤ m) (h1 : m < (s.length : Int)) : keepF s x m = some (keepS s x m) := by
  unfold keepF keepS at_
  rw [if_pos h0, if_pos h1, defines_eq]; rfl
def reachP (s : List Stmt) (n : Int) (x : ByteArray) (d : Int) : Prop := 0 ≤ n ∧ n < (s.length : Int) ∧ 0 ≤ d ∧ d < (s.length : Int) ∧ defB (at_ s d) x = true ∧ Rch s (keepS s x) (nxt s d) n
theorem Reaches_ev (s : List Stmt) (n : Int) (x : ByteArray) (d : Int) (hs : s.length ≤ 1000) : ∃ b, Ev (fun k => cfg_Reaches.f k s n x d) b ∧ (b = true ↔ reachP s n x d) := by
  unfold cfg_Reaches.f
  have no : Ev (fun k => cfg_Reaches.j0 k n d true s x) false := Ev.step (fun k => by rw [cfg_Reaches.j0]) (Ev.pos rfl (Ev.now _))
  have w : ∀ m : Int, withinB s.length m = true ↔ 0 ≤ m ∧ m < (s.length : Int) := by intro m; simp [withinB]
  by_cases hn : 0 ≤ n ∧ n < (s.length : Int)
  · by_cases hd : 0 ≤ d ∧ d < (s.length : Int)
    · cases hb : defB (at_ s d) x with
      | false =>
        refine ⟨false, Ev.pure (within_eq s n) (Ev.pos ((w n).2 hn) (Ev.pure (within_eq s d) (Ev.pos ((w d).2 hd) (Ev.pos hd.1 (Ev.pos hd.2 (Ev.pure (defines_eq (at_ s d) x) ?_)))))), by simp [reachP, hb]⟩
        rw [hb]; exact no
      | true =>
        obtain ⟨r, hr, hrl, hri⟩ := ways_ev s (keepF s x) (keepS s x) (keepF_on s x) (nxt s d) (fun f hf => ⟨(nxt_within hf).1, (nxt_within hf).2.1⟩) hs (by have := nxt_len s d; omega)
        obtain ⟨i, rfl⟩ : ∃ q : Nat, n = (q : Int) := ⟨n.toNat, by omega⟩
        cases hv : r[i]? with
        | none => rw [List.getElem?_eq_none_iff] at hv; omega
        | some v =>
          refine ⟨v, Ev.pure (within_eq s i) (Ev.pos ((w i).2 hn) (Ev.pure (within_eq s d) (Ev.pos ((w d).2 hd) (Ev.pos hd.1 (Ev.pos hd.2 (Ev.pure (defines_eq (at_ s d) x) ?_)))))), ?_⟩
          · rw [hb]
            refine Ev.step (fun k => by rw [cfg_Reaches.j0]) (Ev.neg (by simp) (Ev.pure (Next_eq s d) (Ev.bind hr ?_)))
            exact Ev.pos (by omega) (Ev.pos (by omega) (Ev.some (getD_at hv _)))
          · rw [← Option.some_inj, ← hv, hri i]
            simp [reachP, hb, hn, hd]
    · refine ⟨false, Ev.pure (within_eq s n) (Ev.pos ((w n).2 hn) (Ev.pure (within_eq s d) (Ev.neg (fun h => hd ((w d).1 h)) no))), ⟨fun h => by simp at h, fun h => absurd ⟨h.2.2.1, h.2.2.2.1⟩ hd⟩⟩
  · refine ⟨false, Ev.pure (within_eq s n) (Ev.neg (fun h => hn ((w n).1 h)) no), ⟨fun h => by simp at h, fun h => absurd ⟨h.1, h.2.1⟩ hn⟩⟩
def liveP (s : List Stmt) (n : Int) (x : ByteArray) : Prop := 0 ≤ n ∧ n < (s.length : Int) ∧ ∃ m : Int, Rch s (keepS s x) [n] m ∧ x ∈ usesS (at_ s m)
theorem Rch_within {s : List Stmt} {on : Int → Bool} {fr : List Int} (hfr : ∀ f ∈ fr, 0 ≤ f ∧ f < (s.length : Int)) {n : Int} (h : Rch s on fr n) : 0 ≤ n ∧ n < (s.length : Int) := by
  cases h with
  | base h => exact hfr _ h
  | step _ _ h => exact ⟨(nxt_within h).1, (nxt_within h).2.1⟩
theorem Lives_l0 (s : List Stmt) (x : ByteArray) (seen : List Bool) (hl : seen.length = s.length) (hs : s.length ≤ 1000) : ∀ (d i : Nat), i + d = s.length →
    ∃ b, Ev (fun k => cfg_Lives.l0 k seen (seen.length : Int) i s x) b ∧ (b = true ↔ ∃ m : Nat, i ≤ m ∧ seen[m]? = some true ∧ x ∈ usesS (at_ s m))
  | 0, i, e => by
    refine ⟨false, Ev.step (fun k => by rw [cfg_Lives.l0]) (Ev.neg (by omega) (Ev.now _)), by
      simp only [Bool.false_eq_true, false_iff, not_exists]
      rintro m ⟨h1, h2, -⟩
      have := (List.getElem?_eq_some_iff.1 h2).1
      omega⟩
  | d + 1, i, e => by
    obtain ⟨b, hb, hbi⟩ := Lives_l0 s x seen hl hs d (i + 1) (by omega)
    have more : ∀ {P : Prop}, (P ↔ ∃ m : Nat, i + 1 ≤ m ∧ seen[m]? = some true ∧ x ∈ usesS (at_ s m)) → ¬ (seen[i]? = some true ∧ x ∈ usesS (at_ s i)) → (P ↔ ∃ m : Nat, i ≤ m ∧ seen[m]? = some true ∧ x ∈ usesS (at_ s m)) := by
      intro P hP hn
      rw [hP]
      constructor
      · rintro ⟨m, h1, h2⟩; exact ⟨m, by omega, h2⟩
      · rintro ⟨m, h1, h2⟩
        rcases Nat.lt_or_ge i m with h | h
        · exact ⟨m, h, h2⟩
        · obtain rfl : m = i := by omega
          exact absurd h2 hn
    cases hv : seen[i]? with
    | none => rw [List.getElem?_eq_none_iff] at hv; omega
    | some v =>
      cases v with
      | false =>
        refine ⟨b, Ev.step (fun k => by rw [cfg_Lives.l0]) (Ev.pos (by omega) (Ev.pos (by omega) (Ev.pos (by omega) ?_))), more hbi (by rw [hv]; simp)⟩
        rw [show rdOf false seen (i : Int) = false from getD_at hv _, wrap_up (by omega)]
        exact Ev.neg (by simp) hb
      | true =>
        by_cases c : x ∈ usesS (at_ s i)
        · refine ⟨true, Ev.step (fun k => by rw [cfg_Lives.l0]) (Ev.pos (by omega) (Ev.pos (by omega) (Ev.pos (by omega) ?_))), by simp only [true_iff]; exact ⟨i, Nat.le_refl _, hv, c⟩⟩
          rw [show rdOf false seen (i : Int) = true from getD_at hv _]
          refine Ev.pos rfl (Ev.pos (by omega) (Ev.pure (Uses_eq (at_ s i)) (Ev.bind (Contains_ev _ x (by have := usesS_len (at_ s i); omega)) ?_)))
          rw [mem_iff.2 c]
          exact Ev.pos rfl (Ev.now _)
        · refine ⟨b, Ev.step (fun k => by rw [cfg_Lives.l0]) (Ev.pos (by omega) (Ev.pos (by omega) (Ev.pos (by omega) ?_))), more hbi (fun h => c h.2)⟩
          rw [show rdOf false seen (i : Int) = true from getD_at hv _, wrap_up (by omega)]
          refine Ev.pos rfl (Ev.pos (by omega) (Ev.pure (Uses_eq (at_ s i)) (Ev.bind (Contains_ev _ x (by have := usesS_len (at_ s i); omega)) ?_)))
          exact Ev.neg (by rw [mem_iff]; exact c) hb
theorem Lives_ev (s : List Stmt) (n : Int) (x : ByteArray) (hs : s.length ≤ 1000) : ∃ b, Ev (fun k => cfg_Lives.f k s n x) b ∧ (b = true ↔ liveP s n x) := by
  unfold cfg_Lives.f
  have w : withinB s.length n = true ↔ 0 ≤ n ∧ n < (s.length : Int) := by simp [withinB]
  by_cases hn : 0 ≤ n ∧ n < (s.length : Int)
  · have hfr : ∀ f ∈ [n], 0 ≤ f ∧ f < (s.length : Int) := by intro f hf; simp at hf; subst hf; exact hn
    obtain ⟨r, hr, hrl, hri⟩ := ways_ev s (keepF s x) (keepS s x) (keepF_on s x) [n] hfr hs (by simp)
    obtain ⟨b, hb, hbi⟩ := Lives_l0 s x r hrl hs s.length 0 (by omega)
    refine ⟨b, Ev.pure (within_eq s n) (Ev.pos (w.2 hn) (Ev.bind hr hb)), ?_⟩
    rw [hbi]
    constructor
    · rintro ⟨m, -, h2, h3⟩; exact ⟨hn.1, hn.2, m, (hri m).1 h2, h3⟩
    · rintro ⟨-, -, m, h1, h2⟩
      have hm := Rch_within hfr h1
      obtain ⟨i, rfl⟩ : ∃ q : Nat, m = (q : Int) := ⟨m.toNat, by omega⟩
      exact ⟨i, by omega, (hri i).2 h1, h2⟩
  · refine ⟨false, Ev.pure (within_eq s n) (Ev.neg (fun h => hn (w.1 h)) (Ev.now _)), ?_⟩
    simp only [liveP, Bool.false_eq_true, false_iff]
    rintro ⟨a, b, -⟩
    exact hn ⟨a, b⟩
theorem ev_of {g : Nat → Option Bool} {P : Prop} (h : ∃ b, Ev g b ∧ (b = true ↔ P)) {b : Bool} (e : b = true ↔ P) : Ev g b := by
  obtain ⟨c, hc, hp⟩ := h
  have : c = b := by rw [Bool.eq_iff_iff, hp, e]
  exact this ▸ hc
theorem ev_yes {g : Nat → Option Bool} {P : Prop} (h : ∃ b, Ev g b ∧ (b = true ↔ P)) (e : P) : Ev g true := ev_of h (by simp [e])
theorem ev_no {g : Nat → Option Bool} {P : Prop} (h : ∃ b, Ev g b ∧ (b = true ↔ P)) (e : ¬ P) : Ev g false := ev_of h (by simp [e])
end Go.Proofs.Ytnepgcbgkhikkaa.H
namespace Go.Proofs.Ytnepgcbgkhikkaa.H
open Go.RowKit Go.Proofs.YtnepgcbgkhikkaaW.PrintWords Go.Proofs.YtnepgcbgkhikkaaW.PrintLast Go.Proofs.YtnepgcbgkhikkaaW.PrintMore
attribute [local go_sem] max2_int min2_int max_two min_two max_three min_three max_four min_four
def lambrequinref20_Defines.f (a0_0 : Int) (a0_1 : ByteArray) (a0_2 : ByteArray) (a0_3 : ByteArray) (a0_4 : ByteArray) (a0_5 : Int) (a0_6 : Int) (a0_7 : Int) (a1 : ByteArray) : Option (Bool) := if a0_0 ≥ 1 then (if a0_0 ≤ 5 then (some (a0_1.toList == a1.toList)) else (some false)) else (some false)
set_option maxHeartbeats 8000000 in
set_option maxRecDepth 100000 in
theorem lambrequinref20_Defines.calls (a0_0 : Int) (a0_1 : ByteArray) (a0_2 : ByteArray) (a0_3 : ByteArray) (a0_4 : ByteArray) (a0_5 : Int) (a0_6 : Int) (a0_7 : Int) (a1 : ByteArray) (r : Bool) (w : World) (h : lambrequinref20_Defines.f a0_0 a0_1 a0_2 a0_3 a0_4 a0_5 a0_6 a0_7 a1 = some r) :
  Calls Try.prog 58 #[.agg #[.int .i64 a0_0, .string a0_1, .string a0_2, .string a0_3, .string a0_4, .int .i64 a0_5, .int .i64 a0_6, .int .i64 a0_7], .string a1] w fun e w' => e = .returned (.bool r) ∧ Below w.heap.size w w' := by
 have hu30 := Try.underlying30
 have HB := Aside0.mk (Below.refl w.heap.size w)
 have H : (if a0_0 ≥ 1 then (if a0_0 ≤ 5 then (some (a0_1.toList == a1.toList)) else (some false)) else (some false)) = some r := h
 clear h
 by_cases c3 : a0_0 ≥ 1
 ·rw [if_pos c3] at H
  have c3b0 : decide (1 ≤ a0_0) = true := decide_eq_true c3
  clear c3
  by_cases c4 : a0_0 ≤ 5
  ·rw [if_pos c4] at H
   have c4b0 : decide (a0_0 ≤ 5) = true := decide_eq_true c4
   clear c4
   obtain rfl := Option.some.inj H
   go_enter Try.func58, Try.ntmps58
   go_wp2_with (first | ((with_reducible refine gate_dst (N := 2) rfl ?_); refine box_event ?hg (N := 2) ?hd (cs := #[.int .i64 a0_0, .string a0_1, .string a0_2, .string a0_3, .string a0_4, .int .i64 a0_5, .int .i64 a0_6, .int .i64 a0_7]) (t := 30) ?hr ?_; (case hd => rfl); (case hg => rfl); (case hr => first | (go_simp; done) | (go_simp; rfl)); intro gb101 hg w5 hbox hb; have n0_ := Aside0.mk (below_step (by repeat (first | (with_reducible first | exact HB.out | apply below_alloc | apply pw_below_drewN | apply below_drew1) | exact HB.out)) hb); have n1_ := Aside0.mk (hbox); have n2_ := Aside0.mk ((by rw [hg]; exact (below_size (by repeat (first | (with_reducible first | exact HB.out | apply below_alloc | apply pw_below_drewN | apply below_drew1) | exact HB.out))) : w.heap.size ≤ gb101)); have n3_ := Aside0.mk ((by rw [hg]; exact (below_size (by repeat (first | (with_reducible first | exact HB.out | apply below_alloc | apply pw_below_drewN | apply below_drew1) | exact HB.out))) : w.heap.size ≤ gb101)); clear HB; have HB := n0_; have BK101 := n1_; have GW101 := n2_; have GE101 := n3_; clear n0_ n1_ n2_ n3_; clear hb hbox hg; have hcz6_0 : w5.cell? ⟨gb101, 0, none⟩ = some (.int .i64 a0_0) := (blk_cell BK101.out 0).trans rfl; have hcz6_1 : w5.cell? ⟨gb101, 1, none⟩ = some (.string a0_1) := (blk_cell BK101.out 1).trans rfl; have hcz6_2 : w5.cell? ⟨gb101, 2, none⟩ = some (.string a0_2) := (blk_cell BK101.out 2).trans rfl; have hcz6_3 : w5.cell? ⟨gb101, 3, none⟩ = some (.string a0_3) := (blk_cell BK101.out 3).trans rfl; have hcz6_4 : w5.cell? ⟨gb101, 4, none⟩ = some (.string a0_4) := (blk_cell BK101.out 4).trans rfl; have hcz6_5 : w5.cell? ⟨gb101, 5, none⟩ = some (.int .i64 a0_5) := (blk_cell BK101.out 5).trans rfl; have hcz6_6 : w5.cell? ⟨gb101, 6, none⟩ = some (.int .i64 a0_6) := (blk_cell BK101.out 6).trans rfl; have hcz6_7 : w5.cell? ⟨gb101, 7, none⟩ = some (.int .i64 a0_7) := (blk_cell BK101.out 7).trans rfl; have hfz6_0 := blk_frozen BK101.out 0; have hfz6_1 := blk_frozen BK101.out 1; have hfz6_2 := blk_frozen BK101.out 2; have hfz6_3 := blk_frozen BK101.out 3; have hfz6_4 := blk_frozen BK101.out 4; have hfz6_5 := blk_frozen BK101.out 5; have hfz6_6 := blk_frozen BK101.out 6; have hfz6_7 := blk_frozen BK101.out 7))
   go_ret
   exact ⟨by first | rfl | (simp [errW_none, errW_some] <;> rfl) | (simp [*, errW_none, errW_some] <;> rfl), by repeat (first | (with_reducible first | exact HB.out | apply below_alloc | apply pw_below_drewN | apply below_drew1 | refine below_set ?_ GE101.out) | exact HB.out)⟩
  ·rw [if_neg c4] at H
   have c4b0 : decide (a0_0 ≤ 5) = false := decide_eq_false c4
   clear c4
   obtain rfl := Option.some.inj H
   go_enter Try.func58, Try.ntmps58
   go_wp2_with (first | ((with_reducible refine gate_dst (N := 2) rfl ?_); refine box_event ?hg (N := 2) ?hd (cs := #[.int .i64 a0_0, .string a0_1, .string a0_2, .string a0_3, .string a0_4, .int .i64 a0_5, .int .i64 a0_6, .int .i64 a0_7]) (t := 30) ?hr ?_; (case hd => rfl); (case hg => rfl); (case hr => first | (go_simp; done) | (go_simp; rfl)); intro gb101 hg w7 hbox hb; have n0_ := Aside0.mk (below_step (by repeat (first | (with_reducible first | exact HB.out | apply below_alloc | apply pw_below_drewN | apply below_drew1) | exact HB.out)) hb); have n1_ := Aside0.mk (hbox); have n2_ := Aside0.mk ((by rw [hg]; exact (below_size (by repeat (first | (with_reducible first | exact HB.out | apply below_alloc | apply pw_below_drewN | apply below_drew1) | exact HB.out))) : w.heap.size ≤ gb101)); have n3_ := Aside0.mk ((by rw [hg]; exact (below_size (by repeat (first | (with_reducible first | exact HB.out | apply below_alloc | apply pw_below_drewN | apply below_drew1) | exact HB.out))) : w.heap.size ≤ gb101)); clear HB; have HB := n0_; have BK101 := n1_; have GW101 := n2_; have GE101 := n3_; clear n0_ n1_ n2_ n3_; clear hb hbox hg; have hcz8_0 : w7.cell? ⟨gb101, 0, none⟩ = some (.int .i64 a0_0) := (blk_cell BK101.out 0).trans rfl; have hcz8_1 : w7.cell? ⟨gb101, 1, none⟩ = some (.string a0_1) := (blk_cell BK101.out 1).trans rfl; have hcz8_2 : w7.cell? ⟨gb101, 2, none⟩ = some (.string a0_2) := (blk_cell BK101.out 2).trans rfl; have hcz8_3 : w7.cell? ⟨gb101, 3, none⟩ = some (.string a0_3) := (blk_cell BK101.out 3).trans rfl; have hcz8_4 : w7.cell? ⟨gb101, 4, none⟩ = some (.string a0_4) := (blk_cell BK101.out 4).trans rfl; have hcz8_5 : w7.cell? ⟨gb101, 5, none⟩ = some (.int .i64 a0_5) := (blk_cell BK101.out 5).trans rfl; have hcz8_6 : w7.cell? ⟨gb101, 6, none⟩ = some (.int .i64 a0_6) := (blk_cell BK101.out 6).trans rfl; have hcz8_7 : w7.cell? ⟨gb101, 7, none⟩ = some (.int .i64 a0_7) := (blk_cell BK101.out 7).trans rfl; have hfz8_0 := blk_frozen BK101.out 0; have hfz8_1 := blk_frozen BK101.out 1; have hfz8_2 := blk_frozen BK101.out 2; have hfz8_3 := blk_frozen BK101.out 3; have hfz8_4 := blk_frozen BK101.out 4; have hfz8_5 := blk_frozen BK101.out 5; have hfz8_6 := blk_frozen BK101.out 6; have hfz8_7 := blk_frozen BK101.out 7))
   go_ret
   exact ⟨by first | rfl | (simp [errW_none, errW_some] <;> rfl) | (simp [*, errW_none, errW_some] <;> rfl), by repeat (first | (with_reducible first | exact HB.out | apply below_alloc | apply pw_below_drewN | apply below_drew1 | refine below_set ?_ GE101.out) | exact HB.out)⟩
 ·rw [if_neg c3] at H
  have c3b0 : decide (1 ≤ a0_0) = false := decide_eq_false c3
  clear c3
  obtain rfl := Option.some.inj H
  go_enter Try.func58, Try.ntmps58
  go_wp2_with (first | ((with_reducible refine gate_dst (N := 2) rfl ?_); refine box_event ?hg (N := 2) ?hd (cs := #[.int .i64 a0_0, .string a0_1, .string a0_2, .string a0_3, .string a0_4, .int .i64 a0_5, .int .i64 a0_6, .int .i64 a0_7]) (t := 30) ?hr ?_; (case hd => rfl); (case hg => rfl); (case hr => first | (go_simp; done) | (go_simp; rfl)); intro gb101 hg w9 hbox hb; have n0_ := Aside0.mk (below_step (by repeat (first | (with_reducible first | exact HB.out | apply below_alloc | apply pw_below_drewN | apply below_drew1) | exact HB.out)) hb); have n1_ := Aside0.mk (hbox); have n2_ := Aside0.mk ((by rw [hg]; exact (below_size (by repeat (first | (with_reducible first | exact HB.out | apply below_alloc | apply pw_below_drewN | apply below_drew1) | exact HB.out))) : w.heap.size ≤ gb101)); have n3_ := Aside0.mk ((by rw [hg]; exact (below_size (by repeat (first | (with_reducible first | exact HB.out | apply below_alloc | apply pw_below_drewN | apply below_drew1) | exact HB.out))) : w.heap.size ≤ gb101)); clear HB; have HB := n0_; have BK101 := n1_; have GW101 := n2_; have GE101 := n3_; clear n0_ n1_ n2_ n3_; clear hb hbox hg; have hcz10_0 : w9.cell? ⟨gb101, 0, none⟩ = some (.int .i64 a0_0) := (blk_cell BK101.out 0).trans rfl; have hcz10_1 : w9.cell? ⟨gb101, 1, none⟩ = some (.string a0_1) := (blk_cell BK101.out 1).trans rfl; have hcz10_2 : w9.cell? ⟨gb101, 2, none⟩ = some (.string a0_2) := (blk_cell BK101.out 2).trans rfl; have hcz10_3 : w9.cell? ⟨gb101, 3, none⟩ = some (.string a0_3) := (blk_cell BK101.out 3).trans rfl; have hcz10_4 : w9.cell? ⟨gb101, 4, none⟩ = some (.string a0_4) := (blk_cell BK101.out 4).trans rfl; have hcz10_5 : w9.cell? ⟨gb101, 5, none⟩ = some (.int .i64 a0_5) := (blk_cell BK101.out 5).trans rfl; have hcz10_6 : w9.cell? ⟨gb101, 6, none⟩ = some (.int .i64 a0_6) := (blk_cell BK101.out 6).trans rfl; have hcz10_7 : w9.cell? ⟨gb101, 7, none⟩ = some (.int .i64 a0_7) := (blk_cell BK101.out 7).trans rfl; have hfz10_0 := blk_frozen BK101.out 0; have hfz10_1 := blk_frozen BK101.out 1; have hfz10_2 := blk_frozen BK101.out 2; have hfz10_3 := blk_frozen BK101.out 3; have hfz10_4 := blk_frozen BK101.out 4; have hfz10_5 := blk_frozen BK101.out 5; have hfz10_6 := blk_frozen BK101.out 6; have hfz10_7 := blk_frozen BK101.out 7))
  go_ret
  exact ⟨by first | rfl | (simp [errW_none, errW_some] <;> rfl) | (simp [*, errW_none, errW_some] <;> rfl), by repeat (first | (with_reducible first | exact HB.out | apply below_alloc | apply pw_below_drewN | apply below_drew1 | refine below_set ?_ GE101.out) | exact HB.out)⟩
mutual
def lambrequinref20_Reaches.j0 : Nat → List (Stmt) → Int → ByteArray → Int → Bool → Option (Bool)
 | 0, _, _, _, _, _ => none
 | k + 1, x0, x1, x2, x3, x40 => if x40 = true then (some false) else (if 0 ≤ (x0.length : Int) then (if ((x0.length : Int) : Int).toNat ≤ 281474976710656 then (lambrequinref20_Reaches.l0 k x0 x1 x2 x3 (List.replicate ((x0.length : Int) : Int).toNat false) 0) else (none)) else (none))
def lambrequinref20_Reaches.l0 : Nat → List (Stmt) → Int → ByteArray → Int → List Bool → Int → Option (Bool)
 | 0, _, _, _, _, _, _ => none
 | k + 1, x0, x1, x2, x3, x9, x10 => if x10 < (x0.length : Int) then ((lambrequinref20_Leads.f k x0 x3 x10).bind fun t106 => (if 0 ≤ x10 then (if x10 < (x9.length : Int) then (lambrequinref20_Reaches.l0 k x0 x1 x2 x3 (x9.set (x10 : Int).toNat t106) (wrap64 (x10 + 1))) else (none)) else (none))) else (lambrequinref20_Reaches.l1 k x0 x1 x2 x9 0)
def lambrequinref20_Reaches.l1 : Nat → List (Stmt) → Int → ByteArray → List Bool → Int → Option (Bool)
 | 0, _, _, _, _, _ => none
 | k + 1, x0, x1, x2, x9, x11 => if x11 < (x0.length : Int) then (lambrequinref20_Reaches.l2 k x0 x1 x2 x9 x11 0) else (if 0 ≤ x1 then (if x1 < (x9.length : Int) then (some (rdOf false x9 x1)) else (none)) else (none))
def lambrequinref20_Reaches.l2 : Nat → List (Stmt) → Int → ByteArray → List Bool → Int → Int → Option (Bool)
 | 0, _, _, _, _, _, _ => none
 | k + 1, x0, x1, x2, x9, x11, x12 => if x12 < (x0.length : Int) then (lambrequinref20_Reaches.l3 k x0 x1 x2 x9 x11 x12 0) else (lambrequinref20_Reaches.l1 k x0 x1 x2 x9 (wrap64 (x11 + 1)))
def lambrequinref20_Reaches.l3 : Nat → List (Stmt) → Int → ByteArray → List Bool → Int → Int → Int → Option (Bool)
 | 0, _, _, _, _, _, _, _ => none
 | k + 1, x0, x1, x2, x9, x11, x12, x13 => if x13 < (x0.length : Int) then (if 0 ≤ x12 then (if x12 < (x9.length : Int) then (if rdOf false x9 x12 = true then (if x12 < (x0.length : Int) then ((lambrequinref20_Defines.f ((rd_T30 x0 x12).kind) ((rd_T30 x0 x12).x) ((rd_T30 x0 x12).y) ((rd_T30 x0 x12).z) ((rd_T30 x0 x12).op) ((rd_T30 x0 x12).n) ((rd_T30 x0 x12).a) ((rd_T30 x0 x12).b) x2).bind fun t111 => (if t111 = true then (lambrequinref20_Reaches.l3 k x0 x1 x2 x9 x11 x12 (wrap64 (x13 + 1))) else ((lambrequinref20_Leads.f k x0 x12 x13).bind fun t112 => (if t112 = true then (if 0 ≤ x13 then (if x13 < (x9.length : Int) then (lambrequinref20_Reaches.l3 k x0 x1 x2 (x9.set (x13 : Int).toNat true) x11 x12 (wrap64 (x13 + 1))) else (none)) else (none)) else (lambrequinref20_Reaches.l3 k x0 x1 x2 x9 x11 x12 (wrap64 (x13 + 1))))))) else (none)) else (lambrequinref20_Reaches.l3 k x0 x1 x2 x9 x11 x12 (wrap64 (x13 + 1)))) else (none)) else (none)) else (lambrequinref20_Reaches.l2 k x0 x1 x2 x9 x11 (wrap64 (x12 + 1)))
end
def lambrequinref20_Reaches.f (k : Nat) (l0 : List (Stmt)) (a1 : Int) (a2 : ByteArray) (a3 : Int) : Option (Bool) := if a1 < 0 then (lambrequinref20_Reaches.j0 k l0 a1 a2 a3 true) else (if a1 ≥ (l0.length : Int) then (lambrequinref20_Reaches.j0 k l0 a1 a2 a3 true) else (if a3 < 0 then (lambrequinref20_Reaches.j0 k l0 a1 a2 a3 true) else (if a3 ≥ (l0.length : Int) then (lambrequinref20_Reaches.j0 k l0 a1 a2 a3 true) else (if 0 ≤ a3 then (if a3 < (l0.length : Int) then ((lambrequinref20_Defines.f ((rd_T30 l0 a3).kind) ((rd_T30 l0 a3).x) ((rd_T30 l0 a3).y) ((rd_T30 l0 a3).z) ((rd_T30 l0 a3).op) ((rd_T30 l0 a3).n) ((rd_T30 l0 a3).a) ((rd_T30 l0 a3).b) a2).bind fun t102 => (lambrequinref20_Reaches.j0 k l0 a1 a2 a3 (!t102))) else (none)) else (none)))))
theorem lambrequinref20_Reaches.mono_l : ∀ k, (∀ y0 y1 y2 y3 y4, LeO (lambrequinref20_Reaches.j0 k y0 y1 y2 y3 y4) (lambrequinref20_Reaches.j0 (k + 1) y0 y1 y2 y3 y4)) ∧ (∀ y0 y1 y2 y3 y4 y5, LeO (lambrequinref20_Reaches.l0 k y0 y1 y2 y3 y4 y5) (lambrequinref20_Reaches.l0 (k + 1) y0 y1 y2 y3 y4 y5)) ∧ (∀ y0 y1 y2 y3 y4, LeO (lambrequinref20_Reaches.l1 k y0 y1 y2 y3 y4) (lambrequinref20_Reaches.l1 (k + 1) y0 y1 y2 y3 y4)) ∧ (∀ y0 y1 y2 y3 y4 y5, LeO (lambrequinref20_Reaches.l2 k y0 y1 y2 y3 y4 y5) (lambrequinref20_Reaches.l2 (k + 1) y0 y1 y2 y3 y4 y5)) ∧ (∀ y0 y1 y2 y3 y4 y5 y6, LeO (lambrequinref20_Reaches.l3 k y0 y1 y2 y3 y4 y5 y6) (lambrequinref20_Reaches.l3 (k + 1) y0 y1 y2 y3 y4 y5 y6))
 | 0 => ⟨fun _ _ _ _ _ r h => by simp [lambrequinref20_Reaches.j0] at h, fun _ _ _ _ _ _ r h => by simp [lambrequinref20_Reaches.l0] at h, fun _ _ _ _ _ r h => by simp [lambrequinref20_Reaches.l1] at h, fun _ _ _ _ _ _ r h => by simp [lambrequinref20_Reaches.l2] at h, fun _ _ _ _ _ _ _ r h => by simp [lambrequinref20_Reaches.l3] at h⟩
 | k + 1 => by
  obtain ⟨ih0, ih1, ih2, ih3, ih4⟩ := lambrequinref20_Reaches.mono_l k
  refine ⟨?_, ?_, ?_, ?_, ?_⟩
  ·intro y0 y1 y2 y3 y4
   unfold lambrequinref20_Reaches.j0
   repeat' first
   | (with_reducible exact ih0 _ _ _ _ _)
   | (with_reducible exact ih1 _ _ _ _ _ _)
   | (with_reducible exact ih2 _ _ _ _ _)
   | (with_reducible exact ih3 _ _ _ _ _ _)
   | (with_reducible exact ih4 _ _ _ _ _ _ _)
   | (with_reducible exact lambrequinref20_Leads.mono _ _ _ _)
   | (with_reducible exact LeO.refl _)
   | (with_reducible exact LeO.none _)
   | (with_reducible refine LeO.ite ?_ ?_)
   | (with_reducible refine LeO.bind ?_ (fun _ => ?_))
   | exact ih0 _ _ _ _ _
   | exact ih1 _ _ _ _ _ _
   | exact ih2 _ _ _ _ _
   | exact ih3 _ _ _ _ _ _
   | exact ih4 _ _ _ _ _ _ _
   | exact lambrequinref20_Leads.mono _ _ _ _
   | exact LeO.none _
   | refine LeO.ite ?_ ?_
   | refine LeO.bind ?_ (fun _ => ?_)
  ·intro y0 y1 y2 y3 y4 y5
   unfold lambrequinref20_Reaches.l0
   repeat' first
   | (with_reducible exact ih0 _ _ _ _ _)
   | (with_reducible exact ih1 _ _ _ _ _ _)
   | (with_reducible exact ih2 _ _ _ _ _)
   | (with_reducible exact ih3 _ _ _ _ _ _)
   | (with_reducible exact ih4 _ _ _ _ _ _ _)
   | (with_reducible exact lambrequinref20_Leads.mono _ _ _ _)
   | (with_reducible exact LeO.refl _)
   | (with_reducible exact LeO.none _)
   | (with_reducible refine LeO.ite ?_ ?_)
   | (with_reducible refine LeO.bind ?_ (fun _ => ?_))
   | exact ih0 _ _ _ _ _
   | exact ih1 _ _ _ _ _ _
   | exact ih2 _ _ _ _ _
   | exact ih3 _ _ _ _ _ _
   | exact ih4 _ _ _ _ _ _ _
   | exact lambrequinref20_Leads.mono _ _ _ _
   | exact LeO.none _
   | refine LeO.ite ?_ ?_
   | refine LeO.bind ?_ (fun _ => ?_)
  ·intro y0 y1 y2 y3 y4
   unfold lambrequinref20_Reaches.l1
   repeat' first
   | (with_reducible exact ih0 _ _ _ _ _)
   | (with_reducible exact ih1 _ _ _ _ _ _)
   | (with_reducible exact ih2 _ _ _ _ _)
   | (with_reducible exact ih3 _ _ _ _ _ _)
   | (with_reducible exact ih4 _ _ _ _ _ _ _)
   | (with_reducible exact lambrequinref20_Leads.mono _ _ _ _)
   | (with_reducible exact LeO.refl _)
   | (with_reducible exact LeO.none _)
   | (with_reducible refine LeO.ite ?_ ?_)
   | (with_reducible refine LeO.bind ?_ (fun _ => ?_))
   | exact ih0 _ _ _ _ _
   | exact ih1 _ _ _ _ _ _
   | exact ih2 _ _ _ _ _
   | exact ih3 _ _ _ _ _ _
   | exact ih4 _ _ _ _ _ _ _
   | exact lambrequinref20_Leads.mono _ _ _ _
   | exact LeO.none _
   | refine LeO.ite ?_ ?_
   | refine LeO.bind ?_ (fun _ => ?_)
  ·intro y0 y1 y2 y3 y4 y5
   unfold lambrequinref20_Reaches.l2
   repeat' first
   | (with_reducible exact ih0 _ _ _ _ _)
   | (with_reducible exact ih1 _ _ _ _ _ _)
   | (with_reducible exact ih2 _ _ _ _ _)
   | (with_reducible exact ih3 _ _ _ _ _ _)
   | (with_reducible exact ih4 _ _ _ _ _ _ _)
   | (with_reducible exact lambrequinref20_Leads.mono _ _ _ _)
   | (with_reducible exact LeO.refl _)
   | (with_reducible exact LeO.none _)
   | (with_reducible refine LeO.ite ?_ ?_)
   | (with_reducible refine LeO.bind ?_ (fun _ => ?_))
   | exact ih0 _ _ _ _ _
   | exact ih1 _ _ _ _ _ _
   | exact ih2 _ _ _ _ _
   | exact ih3 _ _ _ _ _ _
   | exact ih4 _ _ _ _ _ _ _
   | exact lambrequinref20_Leads.mono _ _ _ _
   | exact LeO.none _
   | refine LeO.ite ?_ ?_
   | refine LeO.bind ?_ (fun _ => ?_)
  ·intro y0 y1 y2 y3 y4 y5 y6
   unfold lambrequinref20_Reaches.l3
   repeat' first
   | (with_reducible exact ih0 _ _ _ _ _)
   | (with_reducible exact ih1 _ _ _ _ _ _)
   | (with_reducible exact ih2 _ _ _ _ _)
   | (with_reducible exact ih3 _ _ _ _ _ _)
   | (with_reducible exact ih4 _ _ _ _ _ _ _)
   | (with_reducible exact lambrequinref20_Leads.mono _ _ _ _)
   | (with_reducible exact LeO.refl _)
   | (with_reducible exact LeO.none _)
   | (with_reducible refine LeO.ite ?_ ?_)
   | (with_reducible refine LeO.bind ?_ (fun _ => ?_))
   | exact ih0 _ _ _ _ _
   | exact ih1 _ _ _ _ _ _
   | exact ih2 _ _ _ _ _
   | exact ih3 _ _ _ _ _ _
   | exact ih4 _ _ _ _ _ _ _
   | exact lambrequinref20_Leads.mono _ _ _ _
   | exact LeO.none _
   | refine LeO.ite ?_ ?_
   | refine LeO.bind ?_ (fun _ => ?_)
theorem lambrequinref20_Reaches.mono : ∀ a0 a1 a2 a3 k, LeO (lambrequinref20_Reaches.f k a0 a1 a2 a3) (lambrequinref20_Reaches.f (k + 1) a0 a1 a2 a3) := by
 intro a0 a1 a2 a3 k
 obtain ⟨ih0, ih1, ih2, ih3, ih4⟩ := lambrequinref20_Reaches.mono_l k
 unfold lambrequinref20_Reaches.f
 repeat' first
   | (with_reducible exact ih0 _ _ _ _ _)
   | (with_reducible exact ih1 _ _ _ _ _ _)
   | (with_reducible exact ih2 _ _ _ _ _)
   | (with_reducible exact ih3 _ _ _ _ _ _)
   | (with_reducible exact ih4 _ _ _ _ _ _ _)
   | (with_reducible exact lambrequinref20_Leads.mono _ _ _ _)
   | (with_reducible exact LeO.refl _)
   | (with_reducible exact LeO.none _)
   | (with_reducible refine LeO.ite ?_ ?_)
   | (with_reducible refine LeO.bind ?_ (fun _ => ?_))
   | exact ih0 _ _ _ _ _
   | exact ih1 _ _ _ _ _ _
   | exact ih2 _ _ _ _ _
   | exact ih3 _ _ _ _ _ _
   | exact ih4 _ _ _ _ _ _ _
   | exact lambrequinref20_Leads.mono _ _ _ _
   | exact LeO.none _
   | refine LeO.ite ?_ ?_
   | refine LeO.bind ?_ (fun _ => ?_)
set_option maxHeartbeats 8000000 in
set_option maxRecDepth 100000 in
theorem lambrequinref20_Reaches.calls (k : Nat) (A0 : Option Addr) (c0 : Nat) (l0 : List (Stmt)) (a1 : Int) (a2 : ByteArray) (a3 : Int) (r : Bool) (w : World) (hr0 : Kd.C k30 w A0 l0.length l0) (hc0 : l0.length ≤ c0) (h : lambrequinref20_Reaches.f k l0 a1 a2 a3 = some r) :
  Calls Try.prog 38 #[.slice A0 l0.length c0, .int .i64 a1, .string a2, .int .i64 a3] w fun e w' => e = .returned (.bool r) ∧ Below w.heap.size w w' := by
 have hu30 := Try.underlying30
 have HR0 := am hr0
 have HC0 := am hc0
 clear hr0 hc0
 have HB := am (Below.refl w.heap.size w)
 have H : (if a1 < 0 then (lambrequinref20_Reaches.j0 k l0 a1 a2 a3 true) else (if a1 ≥ (l0.length : Int) then (lambrequinref20_Reaches.j0 k l0 a1 a2 a3 true) else (if a3 < 0 then (lambrequinref20_Reaches.j0 k l0 a1 a2 a3 true) else (if a3 ≥ (l0.length : Int) then (lambrequinref20_Reaches.j0 k l0 a1 a2 a3 true) else (if 0 ≤ a3 then (if a3 < (l0.length : Int) then ((lambrequinref20_Defines.f ((rd_T30 l0 a3).kind) ((rd_T30 l0 a3).x) ((rd_T30 l0 a3).y) ((rd_T30 l0 a3).z) ((rd_T30 l0 a3).op) ((rd_T30 l0 a3).n) ((rd_T30 l0 a3).a) ((rd_T30 l0 a3).b) a2).bind fun t102 => (lambrequinref20_Reaches.j0 k l0 a1 a2 a3 (!t102))) else (none)) else (none)))))) = some r := h
 clear h
 have HC5 := am H
 clear H
 go_enter Try.func38, Try.ntmps38
 go_upto_region 1 with (fail)
 go_cut [40] (fun v40 wc => ∃ (kq : Nat) (x40_4 : Bool), v40 = .bool x40_4 ∧ Aside0 (lambrequinref20_Reaches.j0 kq l0 a1 a2 a3 x40_4 = some r) ∧ Aside0 (kq ≤ k) ∧ Aside0 (Below w.heap.size w wc))
 case first =>
  have H := HC5.out
  clear HC5
  by_cases c6 : a1 < 0
  ·rw [if_pos c6] at H
   have c6b0 : decide (a1 < 0) = true := decide_eq_true c6
   clear c6
   (first | rw [c6b0] | (simp only [i64_w, i32_w]; rw [c6b0]) | skip)
   have H' := am H
   clear H
   go_wp2
   go_meet
   case rel => exact ⟨_, (true), (by first | rfl | (simp; done) | (simp [*]; done)), H', ⟨by first | omega | exact Nat.le_refl _⟩, ⟨by repeat (first | (with_reducible first | exact HB.out | apply lA | apply lN | apply lD) | exact HB.out)⟩⟩
  ·rw [if_neg c6] at H
   have c6b0 : decide (a1 < 0) = false := decide_eq_false c6
   clear c6
   (first | rw [c6b0] | (simp only [i64_w, i32_w]; rw [c6b0]) | skip)
   by_cases c7 : a1 ≥ (l0.length : Int)
   ·rw [if_pos c7] at H
    have c7b0 : decide ((l0.length : Int) ≤ a1) = true := decide_eq_true c7
    clear c7
    have H' := am H
    clear H
    go_wp2
    go_meet
    case rel => exact ⟨_, (true), (by first | rfl | (simp; done) | (simp [*]; done)), H', ⟨by first | omega | exact Nat.le_refl _⟩, ⟨by repeat (first | (with_reducible first | exact HB.out | apply lA | apply lN | apply lD) | exact HB.out)⟩⟩
   ·rw [if_neg c7] at H
    have c7b0 : decide ((l0.length : Int) ≤ a1) = false := decide_eq_false c7
    clear c7
    by_cases c8 : a3 < 0
    ·rw [if_pos c8] at H
     have c8b0 : decide (a3 < 0) = true := decide_eq_true c8
     clear c8
     have H' := am H
     clear H
     go_wp2
     go_meet
     case rel => exact ⟨_, (true), (by first | rfl | (simp; done) | (simp [*]; done)), H', ⟨by first | omega | exact Nat.le_refl _⟩, ⟨by repeat (first | (with_reducible first | exact HB.out | apply lA | apply lN | apply lD) | exact HB.out)⟩⟩
    ·rw [if_neg c8] at H
     have c8b0 : decide (a3 < 0) = false := decide_eq_false c8
     clear c8
     by_cases c9 : a3 ≥ (l0.length : Int)
     ·rw [if_pos c9] at H
      have c9b0 : decide ((l0.length : Int) ≤ a3) = true := decide_eq_true c9
      clear c9
      have H' := am H
      clear H
      go_wp2
      go_meet
      case rel => exact ⟨_, (true), (by first | rfl | (simp; done) | (simp [*]; done)), H', ⟨by first | omega | exact Nat.le_refl _⟩, ⟨by repeat (first | (with_reducible first | exact HB.out | apply lA | apply lN | apply lD) | exact HB.out)⟩⟩
     ·rw [if_neg c9] at H
      have c9b0 : decide ((l0.length : Int) ≤ a3) = false := decide_eq_false c9
      clear c9
      by_cases c10 : 0 ≤ a3
      ·rw [if_pos c10] at H
       have c10b0 : decide (0 ≤ a3) = true := decide_eq_true c10
       clear c10
       by_cases c11 : a3 < (l0.length : Int)
       ·rw [if_pos c11] at H
        have c11b0 : decide (a3 < (l0.length : Int)) = true := decide_eq_true c11
        clear c11
        replace H := Option.bind_eq_some_iff.mp H
        obtain ⟨t102, A120, H⟩ := H
        replace H : (lambrequinref20_Reaches.j0 k l0 a1 a2 a3 (!t102)) = some r := H
        have A12 := am A120
        clear A120
        have H' := am H
        clear H
        have p101 : 0 ≤ (a3 : Int) := of_decide_eq_true (by first | (with_reducible assumption) | assumption)
        have q101 : a3 < (l0.length : Int) := of_decide_eq_true (by first | (with_reducible assumption) | assumption)
        obtain ⟨ad101, e101, hx101_0, hx101_1, hx101_2, hx101_3, hx101_4, hx101_5, hx101_6, hx101_7⟩ := at_T30 HR0.out a3 p101 q101
        cases e101
        replace hx101_0 := (HB.out.cell (blt_ hx101_0)).trans hx101_0
        replace hx101_1 := (HB.out.cell (blt_ hx101_1)).trans hx101_1
        replace hx101_2 := (HB.out.cell (blt_ hx101_2)).trans hx101_2
        replace hx101_3 := (HB.out.cell (blt_ hx101_3)).trans hx101_3
        replace hx101_4 := (HB.out.cell (blt_ hx101_4)).trans hx101_4
        replace hx101_5 := (HB.out.cell (blt_ hx101_5)).trans hx101_5
        replace hx101_6 := (HB.out.cell (blt_ hx101_6)).trans hx101_6
        replace hx101_7 := (HB.out.cell (blt_ hx101_7)).trans hx101_7
        replace p101 := eq_true p101
        replace q101 := eq_true q101
        go_wp2_with (first | (go_at_call 58; (with_reducible refine (lambrequinref20_Defines.calls ((rd_T30 l0 a3).kind) ((rd_T30 l0 a3).x) ((rd_T30 l0 a3).y) ((rd_T30 l0 a3).z) ((rd_T30 l0 a3).op) ((rd_T30 l0 a3).n) ((rd_T30 l0 a3).a) ((rd_T30 l0 a3).b) a2 t102 _ A12.out).mono ?_); rintro e w13 ⟨rfl, hb⟩; replace HB := am (below_step (by repeat (first | (with_reducible first | exact HB.out | apply lA | apply lN | apply lD) | exact HB.out)) hb); (try clear hb); (try clear hb2); (try clear hk); (try clear hi)))
        go_meet
        case rel => exact ⟨_, (!t102), (by first | rfl | (simp; done) | (simp [*]; done)), H', ⟨by first | omega | exact Nat.le_refl _⟩, ⟨by repeat (first | (with_reducible first | exact HB.out | apply lA | apply lN | apply lD) | exact HB.out)⟩⟩
       ·rw [if_neg c11] at H
        exact absurd H (by simp)
      ·rw [if_neg c10] at H
       exact absurd H (by simp)
 case rest =>
  clear HC5
  try clear c1
  try clear p1
  try clear q1
  try clear hx1
  try clear p2
  try clear c3
  try clear c6
  try clear c6b0
  try clear c7
  try clear c7b0
  try clear c8
  try clear c8b0
  try clear c9
  try clear c9b0
  try clear c10
  try clear c10b0
  try clear p10
  try clear q10
  try clear hx10
  try clear c11
  try clear c11b0
  try clear hx101_0
  try clear hx101_1
  try clear hx101_2
  try clear hx101_3
  try clear hx101_4
  try clear hx101_5
  try clear hx101_6
  try clear hx101_7
  try clear p101
  try clear q101
  obtain ⟨kq, x40_4, rfl, HA, HJ4, HB⟩ := hcut
  cases kq with
  | zero => exact absurd HA.out (by simp [lambrequinref20_Reaches.j0])
  | succ kj4 =>
   have H := HA.out
   clear HA
   simp only [lambrequinref20_Reaches.j0] at H
   by_cases c14 : x40_4 = true
   ·subst c14
    have H1 : (some false) = some r := by rw [if_pos rfl] at H; exact H
    clear H
    have H := H1
    clear H1
    obtain rfl := Option.some.inj H
    go_wp2
    go_ret
    exact ⟨by first | rfl | (simp [errW_none, errW_some] <;> rfl) | (simp [*, errW_none, errW_some] <;> rfl), by repeat (first | (with_reducible first | exact HB.out | apply lA | apply lN | apply lD) | exact HB.out)⟩
   ·replace c14 := Bool.eq_false_iff.mpr c14
    subst c14
    have H1 : (if 0 ≤ (l0.length : Int) then (if ((l0.length : Int) : Int).toNat ≤ 281474976710656 then (lambrequinref20_Reaches.l0 kj4 l0 a1 a2 a3 (List.replicate ((l0.length : Int) : Int).toNat false) 0) else (none)) else (none)) = some r := by rw [if_neg (show ¬ (false = true) by decide)] at H; exact H
    clear H
    have H := H1
    clear H1
    by_cases c15 : 0 ≤ (l0.length : Int)
    ·rw [if_pos c15] at H
     have c15b0 := eq_true c15
     have c15b1 : decide (0 ≤ (l0.length : Int)) = true := decide_eq_true c15
     clear c15
     by_cases c16 : ((l0.length : Int) : Int).toNat ≤ 281474976710656
     ·rw [if_pos c16] at H
      have c16b0 := eq_true c16
      have c16b1 : decide (((l0.length : Int) : Int).toNat ≤ 281474976710656) = true := decide_eq_true c16
      clear c16
      obtain ⟨y103, hy103⟩ : ∃ y_ : List Bool, y_ = (List.replicate ((l0.length : Int) : Int).toNat false) := ⟨_, rfl⟩
      replace H : (lambrequinref20_Reaches.l0 kj4 l0 a1 a2 a3 y103 0) = some r := by first | (rw [hy103]; with_reducible exact H) | (have H2_ := (Option.bind_some _ _).symm.trans H; rw [hy103]; with_reducible exact H2_) | (have H2_ := (Option.bind_some _ _).symm.trans H; with_reducible exact H2_) | with_reducible exact H | (rw [hy103]; exact H) | exact H
      have Ny103 := am hy103
      clear hy103
      have H' := am H
      clear H
      go_wp2_with (first | ((with_reducible refine gate_dst (N := 43) rfl ?_); (try (refine gate_guard (by rfl) ?_; dsimp only)); refine Kd.R_make Kd.bool _ 4 rfl (N := 43) rfl 41 _ _ rfl (l0.length : Int) rfl rfl Try.underlying41 (.bool false) 1 info4 rfl (by decide) (by omega) false (ok := fun _ => True) (okp := fun _ => True) rfl (fun _ hk => hk) trivial (of_decide_eq_true (by first | (with_reducible assumption) | assumption)) (Nat.le_trans (Nat.mul_le_mul_right _ (of_decide_eq_true (by first | (with_reducible assumption) | assumption) : (l0.length : Int).toNat ≤ 281474976710656)) (by omega)) (Below.refl _ _) (Nat.le_refl _) ?_; intro v104 w17 ho18 hb hg_ hnew_; clear hg_ hnew_; (first | rw [← Ny103.out] at ho18 | (simp only [Int.reduceToNat] at ho18; rw [← Ny103.out] at ho18)); have HO105 := am (Kd.R_lower ho18 (below_size (by repeat (first | (with_reducible first | exact HB.out | apply lA | apply lN | apply lD) | exact HB.out)))); replace HB := am (below_step (by repeat (first | (with_reducible first | exact HB.out | apply lA | apply lN | apply lD) | exact HB.out)) hb); clear hb ho18))
      go_loopg [10] kj4 (fun kq v10 w' => ∃ (x9_2 : List Bool) (x10_2 : Int), v10 = .int .i64 x10_2 ∧ Aside0 (lambrequinref20_Reaches.l0 kq l0 a1 a2 a3 x9_2 x10_2 = some r) ∧ Aside0 (kq ≤ kj4) ∧ Aside0 (Kd.R Kd.bool 4 w' w.heap.size (fun _ => True) v104 x9_2) ∧ Aside0 (Below w.heap.size w w'))
      case atStart => exact ⟨(y103), (0), (by first | rfl | (simp; done) | (simp [*]; done)), H', ⟨Nat.le_refl _⟩, ⟨by (with_reducible repeat (first | apply Ra | apply Rn | apply Rd)); exact HO105.out⟩, ⟨by repeat (first | (with_reducible first | exact HB.out | apply lA | apply lN | apply lD) | exact HB.out)⟩⟩
      case round =>
       clear H'
       try clear c1
       try clear p1
       try clear q1
       try clear hx1
       try clear p2
       try clear c3
       try clear c6
       try clear c6b0
       try clear c7
       try clear c7b0
       try clear c8
       try clear c8b0
       try clear c9
       try clear c9b0
       try clear c10
       try clear c10b0
       try clear p10
       try clear q10
       try clear hx10
       try clear c11
       try clear c11b0
       try clear c14
       try clear c15
       try clear c15b0
       try clear c15b1
       try clear c16
       try clear c16b0
       try clear c16b1
       try clear hx101_0
       try clear hx101_1
       try clear hx101_2
       try clear hx101_3
       try clear hx101_4
       try clear hx101_5
       try clear hx101_6
       try clear hx101_7
       try clear p1
       try clear p10
       try clear p101
       try clear p2
       try clear q1
       try clear q10
       try clear q101
       obtain ⟨x9_2, x10_2, rfl, HA, HK2, HO_9, HB⟩ := hrel
       cases gk with
       | zero => exact absurd HA.out (by simp [lambrequinref20_Reaches.l0])
       | succ k2 =>
        have H := HA.out
        clear HA
        simp only [lambrequinref20_Reaches.l0] at H
        by_cases c19 : x10_2 < (l0.length : Int)
        ·rw [if_pos c19] at H
         have c19b0 : decide (x10_2 < (l0.length : Int)) = true := decide_eq_true c19
         clear c19
         replace H := Option.bind_eq_some_iff.mp H
         obtain ⟨t106, A200, H⟩ := H
         replace H : (if 0 ≤ x10_2 then (if x10_2 < (x9_2.length : Int) then (lambrequinref20_Reaches.l0 k2 l0 a1 a2 a3 (x9_2.set (x10_2 : Int).toNat t106) (wrap64 (x10_2 + 1))) else (none)) else (none)) = some r := H
         have A20 := am A200
         clear A200
         by_cases c21 : 0 ≤ x10_2
         ·rw [if_pos c21] at H
          have c21b0 : decide (0 ≤ x10_2) = true := decide_eq_true c21
          clear c21
          by_cases c22 : x10_2 < (x9_2.length : Int)
          ·rw [if_pos c22] at H
           have c22b0 : decide (x10_2 < (x9_2.length : Int)) = true := decide_eq_true c22
           clear c22
           obtain ⟨y107, hy107⟩ : ∃ y_ : List Bool, y_ = (x9_2.set (x10_2 : Int).toNat t106) := ⟨_, rfl⟩
           replace H : (lambrequinref20_Reaches.l0 k2 l0 a1 a2 a3 y107 (wrap64 (x10_2 + 1))) = some r := by first | (rw [hy107]; with_reducible exact H) | (have H2_ := (Option.bind_some _ _).symm.trans H; rw [hy107]; with_reducible exact H2_) | (have H2_ := (Option.bind_some _ _).symm.trans H; with_reducible exact H2_) | with_reducible exact H | (rw [hy107]; exact H) | exact H
           have Ny107 := am hy107
           clear hy107
           have H' := am H
           clear H
           go_wp2_with (first | ((with_reducible refine gate_callee (f := 53) rfl ?_); refine goesL_ (some 55) rfl rfl Try.func53 (by kernel_rfl) rfl #[.slice A0 l0.length c0, .int .i64 a3, .int .i64 x10_2] rfl (by (try simp only [List.map_toArray, List.map_cons, List.map_nil]); first | done | rfl | (simp only [List.length_drop, List.length_take]; rfl)) ?_; (with_reducible refine (lambrequinref20_Leads.calls k2 _ _ l0 a3 x10_2 t106 _ ?side1 ?side2 A20.out).mono ?_); (case side1 => repeat (first | exact (Kd.C_below HR0.out HB.out) | (with_reducible refine Kd.C_alloc ?_ _) | (with_reducible refine Kd.C_drewN ?_ _) | (with_reducible refine Kd.C_drew ?_))); (case side2 => exact HC0.out); rintro e w' ⟨rfl, ⟨nd, rfl⟩⟩; refine ⟨_, rfl, ?_⟩; (try (rw [drewN_self wr]; generalize hq_ : World.drewN wr _ = wr; replace HO_9 : Aside0 (Kd.R Kd.bool 4 wr w.heap.size (fun _ => True) v104 x9_2) := ⟨by rw [← hq_]; exact (by (with_reducible repeat (first | apply Ra | apply Rn | apply Rd)); exact HO_9.out)⟩; replace HB : Aside0 (Below w.heap.size w wr) := ⟨by rw [← hq_]; exact (by repeat (first | (with_reducible first | exact HB.out | apply lA | apply lN | apply lD) | exact HB.out))⟩; clear hq_)); have p23 : 0 ≤ (x10_2 : Int) := of_decide_eq_true (by first | (with_reducible assumption) | assumption); have q23 : (x10_2 : Int) < ((x9_2.length : Int) : Int) := of_decide_eq_true (by first | (with_reducible assumption) | assumption); obtain ⟨go23, co23, eo23, gb23, gl23, cl23, HG23⟩ := Kd.R_form HO_9.out (by omega); (first | cases eo23 | (injection eo23 with ea_ en_ ec_; (first | subst ea_ | (injection ea_ with ea_; subst ea_)); subst ec_; clear en_)); have GB23 := am gb23; have GG23 := am HG23; clear gb23 gl23 HG23; obtain ⟨hx23_0, hf23_0⟩ := Kd.R_celln false HO_9.out (x10_2 : Int) p23 q23; replace p23 := eq_true p23; replace q23 := eq_true q23; obtain ⟨hy24_, hz24_⟩ := Kd.R_celln false HO_9.out (x10_2 : Int) (of_decide_eq_true (by first | (with_reducible assumption) | assumption)) (of_decide_eq_true (by first | (with_reducible assumption) | assumption)); have HP24 := Kd.R_putg HO_9.out (x10_2 : Int) t106) | ((with_reducible refine gate_store (t := 4) (p := 56) rfl ?_); refine store_event (t := 4) (p := 56) (v := ?vo_w25) (w1 := (wr.setCell ⟨go23, (x10_2 : Int).toNat, none⟩ (.bool t106))) ?hg ?ho ?hn ?hr ?_; (case ho => rfl); (case hg => rfl); (case hn => rfl); (case hr => first | (go_simp; done) | (go_simp; rfl)); intro w25 hw; have hg : wr.grownBy w25 (some go23) := (by rw [hw]; exact HP24.2); have hp_ : Kd.R Kd.bool 4 w25 w.heap.size (fun _ => True) (.slice (some ⟨go23, 0, none⟩) x9_2.length co23) y107 := (by rw [hw, Ny107.out]; exact HP24.1); clear HP24; replace HO_9 := am (hp_); replace HB := am ((by rw [hw]; exact below_set (HB.out) GB23.out : Below w.heap.size w w25)); clear hg hw hp_))
           go_roundg k2
           case measure => have := HJ4.out; have := HK2.out; omega
           case rel => exact ⟨(y107), (wrap64 (x10_2 + 1)), (by first | rfl | (simp; done) | (simp [*]; done)), H', ⟨by have := HJ4.out; have := HK2.out; omega⟩, ⟨by (with_reducible repeat (first | apply Ra | apply Rn | apply Rd)); exact HO_9.out⟩, ⟨by repeat (first | (with_reducible first | exact HB.out | apply lA | apply lN | apply lD) | exact HB.out)⟩⟩
          ·rw [if_neg c22] at H
           exact absurd H (by simp)
         ·rw [if_neg c21] at H
          exact absurd H (by simp)
        ·rw [if_neg c19] at H
         have c19b0 : decide (x10_2 < (l0.length : Int)) = false := decide_eq_false c19
         clear c19
         have H' := am H
         clear H
         go_wp2
         go_loopg [11] k2 (fun kq v11 w' => ∃ (x9_3 : List Bool) (x11_3 : Int), v11 = .int .i64 x11_3 ∧ Aside0 (lambrequinref20_Reaches.l1 kq l0 a1 a2 x9_3 x11_3 = some r) ∧ Aside0 (kq ≤ k2) ∧ Aside0 (Kd.R Kd.bool 4 w' w.heap.size (fun _ => True) v104 x9_3) ∧ Aside0 (Below w.heap.size w w'))
         case atStart => exact ⟨(x9_2), (0), (by first | rfl | (simp; done) | (simp [*]; done)), H', ⟨Nat.le_refl _⟩, ⟨by (with_reducible repeat (first | apply Ra | apply Rn | apply Rd)); exact HO_9.out⟩, ⟨by repeat (first | (with_reducible first | exact HB.out | apply lA | apply lN | apply lD) | exact HB.out)⟩⟩
         case round =>
          clear H'
          try clear c1
          try clear p1
          try clear q1
          try clear hx1
          try clear c2
          try clear p2
          try clear q2
          try clear hx2
          try clear c3
          try clear c5
          try clear c6
          try clear c6b0
          try clear p6
          try clear c7
          try clear c7b0
          try clear c8
          try clear c8b0
          try clear c9
          try clear c9b0
          try clear c10
          try clear c10b0
          try clear p10
          try clear q10
          try clear hx10
          try clear c11
          try clear c11b0
          try clear c14
          try clear c15
          try clear c15b0
          try clear c15b1
          try clear c16
          try clear c16b0
          try clear c16b1
          try clear c19
          try clear c19b0
          try clear c21
          try clear c21b0
          try clear c22
          try clear c22b0
          try clear p23
          try clear q23
          try clear hx23
          try clear hf23
          try clear hx101_0
          try clear hx101_1
          try clear hx101_2
          try clear hx101_3
          try clear hx101_4
          try clear hx101_5
          try clear hx101_6
          try clear hx101_7
          try clear hx23_0
          try clear p1
          try clear p10
          try clear p101
          try clear p2
          try clear p23
          try clear q1
          try clear q10
          try clear q101
          try clear q23
          obtain ⟨x9_3, x11_3, rfl, HA, HK3, HO_9, HB⟩ := hrel
          cases gk with
          | zero => exact absurd HA.out (by simp [lambrequinref20_Reaches.l1])
          | succ k3 =>
           have H := HA.out
           clear HA
           simp only [lambrequinref20_Reaches.l1] at H
           by_cases c26 : x11_3 < (l0.length : Int)
           ·rw [if_pos c26] at H
            have c26b0 : decide (x11_3 < (l0.length : Int)) = true := decide_eq_true c26
            clear c26
            have H' := am H
            clear H
            go_wp2
            go_loopg [12] k3 (fun kq v12 w' => ∃ (x9_4 : List Bool) (x12_4 : Int), v12 = .int .i64 x12_4 ∧ Aside0 (lambrequinref20_Reaches.l2 kq l0 a1 a2 x9_4 x11_3 x12_4 = some r) ∧ Aside0 (kq ≤ k3) ∧ Aside0 (Kd.R Kd.bool 4 w' w.heap.size (fun _ => True) v104 x9_4) ∧ Aside0 (Below w.heap.size w w'))
            case atStart => exact ⟨(x9_3), (0), (by first | rfl | (simp; done) | (simp [*]; done)), H', ⟨Nat.le_refl _⟩, ⟨by (with_reducible repeat (first | apply Ra | apply Rn | apply Rd)); exact HO_9.out⟩, ⟨by repeat (first | (with_reducible first | exact HB.out | apply lA | apply lN | apply lD) | exact HB.out)⟩⟩
            case round =>
             clear H'
             try clear c1
             try clear p1
             try clear q1
             try clear hx1
             try clear c2
             try clear p2
             try clear q2
             try clear hx2
             try clear c3
             try clear c5
             try clear c6
             try clear c6b0
             try clear p6
             try clear c7
             try clear c7b0
             try clear c8
             try clear c8b0
             try clear c9
             try clear c9b0
             try clear c10
             try clear c10b0
             try clear p10
             try clear q10
             try clear hx10
             try clear c11
             try clear c11b0
             try clear c14
             try clear c15
             try clear c15b0
             try clear c15b1
             try clear c16
             try clear c16b0
             try clear c16b1
             try clear c19
             try clear c19b0
             try clear c21
             try clear c21b0
             try clear c22
             try clear c22b0
             try clear p23
             try clear q23
             try clear hx23
             try clear hf23
             try clear c26
             try clear c26b0
             try clear hx101_0
             try clear hx101_1
             try clear hx101_2
             try clear hx101_3
             try clear hx101_4
             try clear hx101_5
             try clear hx101_6
             try clear hx101_7
             try clear hx23_0
             try clear p1
             try clear p10
             try clear p101
             try clear p2
             try clear p23
             try clear p6
             try clear q1
             try clear q10
             try clear q101
             try clear q2
             try clear q23
             obtain ⟨x9_4, x12_4, rfl, HA, HK4, HO_9, HB⟩ := hrel
             cases gk with
             | zero => exact absurd HA.out (by simp [lambrequinref20_Reaches.l2])
             | succ k4 =>
              have H := HA.out
              clear HA
              simp only [lambrequinref20_Reaches.l2] at H
              by_cases c27 : x12_4 < (l0.length : Int)
              ·rw [if_pos c27] at H
               have c27b0 : decide (x12_4 < (l0.length : Int)) = true := decide_eq_true c27
               clear c27
               have H' := am H
               clear H
               go_wp2
               go_loopg [13] k4 (fun kq v13 w' => ∃ (x9_5 : List Bool) (x13_5 : Int), v13 = .int .i64 x13_5 ∧ Aside0 (lambrequinref20_Reaches.l3 kq l0 a1 a2 x9_5 x11_3 x12_4 x13_5 = some r) ∧ Aside0 (kq ≤ k4) ∧ Aside0 (Kd.R Kd.bool 4 w' w.heap.size (fun _ => True) v104 x9_5) ∧ Aside0 (Below w.heap.size w w'))
               case atStart => exact ⟨(x9_4), (0), (by first | rfl | (simp; done) | (simp [*]; done)), H', ⟨Nat.le_refl _⟩, ⟨by (with_reducible repeat (first | apply Ra | apply Rn | apply Rd)); exact HO_9.out⟩, ⟨by repeat (first | (with_reducible first | exact HB.out | apply lA | apply lN | apply lD) | exact HB.out)⟩⟩
               case round =>
                clear H'
                try clear c1
                try clear p1
                try clear q1
                try clear hx1
                try clear c2
                try clear p2
                try clear q2
                try clear hx2
                try clear c3
                try clear c5
                try clear c6
                try clear c6b0
                try clear p6
                try clear c7
                try clear c7b0
                try clear c8
                try clear c8b0
                try clear c9
                try clear c9b0
                try clear c10
                try clear c10b0
                try clear p10
                try clear q10
                try clear hx10
                try clear c11
                try clear c11b0
                try clear c14
                try clear c15
                try clear c15b0
                try clear c15b1
                try clear c16
                try clear c16b0
                try clear c16b1
                try clear c19
                try clear c19b0
                try clear c21
                try clear c21b0
                try clear c22
                try clear c22b0
                try clear p23
                try clear q23
                try clear hx23
                try clear hf23
                try clear c26
                try clear c26b0
                try clear c27
                try clear c27b0
                try clear hx101_0
                try clear hx101_1
                try clear hx101_2
                try clear hx101_3
                try clear hx101_4
                try clear hx101_5
                try clear hx101_6
                try clear hx101_7
                try clear hx23_0
                try clear p1
                try clear p10
                try clear p101
                try clear p2
                try clear p23
                try clear p6
                try clear q1
                try clear q10
                try clear q101
                try clear q2
                try clear q23
                obtain ⟨x9_5, x13_5, rfl, HA, HK5, HO_9, HB⟩ := hrel
                cases gk with
                | zero => exact absurd HA.out (by simp [lambrequinref20_Reaches.l3])
                | succ k5 =>
                 have H := HA.out
                 clear HA
                 simp only [lambrequinref20_Reaches.l3] at H
                 by_cases c28 : x13_5 < (l0.length : Int)
                 ·rw [if_pos c28] at H
                  have c28b0 : decide (x13_5 < (l0.length : Int)) = true := decide_eq_true c28
                  clear c28
                  by_cases c29 : 0 ≤ x12_4
                  ·rw [if_pos c29] at H
                   have c29b0 : decide (0 ≤ x12_4) = true := decide_eq_true c29
                   clear c29
                   by_cases c30 : x12_4 < (x9_5.length : Int)
                   ·rw [if_pos c30] at H
                    have c30b0 : decide (x12_4 < (x9_5.length : Int)) = true := decide_eq_true c30
                    clear c30
                    obtain ⟨bq31, hbq31⟩ : ∃ b_ : Bool, b_ = (rdOf false x9_5 x12_4) := ⟨_, rfl⟩
                    replace H : (if bq31 = true then (if x12_4 < (l0.length : Int) then ((lambrequinref20_Defines.f ((rd_T30 l0 x12_4).kind) ((rd_T30 l0 x12_4).x) ((rd_T30 l0 x12_4).y) ((rd_T30 l0 x12_4).z) ((rd_T30 l0 x12_4).op) ((rd_T30 l0 x12_4).n) ((rd_T30 l0 x12_4).a) ((rd_T30 l0 x12_4).b) a2).bind fun t111 => (if t111 = true then (lambrequinref20_Reaches.l3 k5 l0 a1 a2 x9_5 x11_3 x12_4 (wrap64 (x13_5 + 1))) else ((lambrequinref20_Leads.f k5 l0 x12_4 x13_5).bind fun t112 => (if t112 = true then (if 0 ≤ x13_5 then (if x13_5 < (x9_5.length : Int) then (lambrequinref20_Reaches.l3 k5 l0 a1 a2 (x9_5.set (x13_5 : Int).toNat true) x11_3 x12_4 (wrap64 (x13_5 + 1))) else (none)) else (none)) else (lambrequinref20_Reaches.l3 k5 l0 a1 a2 x9_5 x11_3 x12_4 (wrap64 (x13_5 + 1))))))) else (none)) else (lambrequinref20_Reaches.l3 k5 l0 a1 a2 x9_5 x11_3 x12_4 (wrap64 (x13_5 + 1)))) = some r := by rw [← hbq31] at H; exact H
                    have Nbq31 := am hbq31
                    clear hbq31
                    by_cases c32 : bq31 = true
                    ·subst c32
                     have H1 : (if x12_4 < (l0.length : Int) then ((lambrequinref20_Defines.f ((rd_T30 l0 x12_4).kind) ((rd_T30 l0 x12_4).x) ((rd_T30 l0 x12_4).y) ((rd_T30 l0 x12_4).z) ((rd_T30 l0 x12_4).op) ((rd_T30 l0 x12_4).n) ((rd_T30 l0 x12_4).a) ((rd_T30 l0 x12_4).b) a2).bind fun t111 => (if t111 = true then (lambrequinref20_Reaches.l3 k5 l0 a1 a2 x9_5 x11_3 x12_4 (wrap64 (x13_5 + 1))) else ((lambrequinref20_Leads.f k5 l0 x12_4 x13_5).bind fun t112 => (if t112 = true then (if 0 ≤ x13_5 then (if x13_5 < (x9_5.length : Int) then (lambrequinref20_Reaches.l3 k5 l0 a1 a2 (x9_5.set (x13_5 : Int).toNat true) x11_3 x12_4 (wrap64 (x13_5 + 1))) else (none)) else (none)) else (lambrequinref20_Reaches.l3 k5 l0 a1 a2 x9_5 x11_3 x12_4 (wrap64 (x13_5 + 1))))))) else (none)) = some r := by rw [if_pos rfl] at H; exact H
                     clear H
                     have H := H1
                     clear H1
                     by_cases c33 : x12_4 < (l0.length : Int)
                     ·rw [if_pos c33] at H
                      have c33b0 : decide (x12_4 < (l0.length : Int)) = true := decide_eq_true c33
                      clear c33
                      replace H := Option.bind_eq_some_iff.mp H
                      obtain ⟨t111, A340, H⟩ := H
                      replace H : (if t111 = true then (lambrequinref20_Reaches.l3 k5 l0 a1 a2 x9_5 x11_3 x12_4 (wrap64 (x13_5 + 1))) else ((lambrequinref20_Leads.f k5 l0 x12_4 x13_5).bind fun t112 => (if t112 = true then (if 0 ≤ x13_5 then (if x13_5 < (x9_5.length : Int) then (lambrequinref20_Reaches.l3 k5 l0 a1 a2 (x9_5.set (x13_5 : Int).toNat true) x11_3 x12_4 (wrap64 (x13_5 + 1))) else (none)) else (none)) else (lambrequinref20_Reaches.l3 k5 l0 a1 a2 x9_5 x11_3 x12_4 (wrap64 (x13_5 + 1)))))) = some r := H
                      have A34 := am A340
                      clear A340
                      by_cases c35 : t111 = true
                      ·subst c35
                       have H1 : (lambrequinref20_Reaches.l3 k5 l0 a1 a2 x9_5 x11_3 x12_4 (wrap64 (x13_5 + 1))) = some r := by rw [if_pos rfl] at H; exact H
                       clear H
                       have H := H1
                       clear H1
                       have H' := am H
                       clear H
                       obtain ⟨Ao36, co36, eo36⟩ := Kd.R_slice HO_9.out
                       subst eo36
                       have p109 : 0 ≤ (x12_4 : Int) := of_decide_eq_true (by first | (with_reducible assumption) | assumption)
                       have q109 : x12_4 < (x9_5.length : Int) := of_decide_eq_true (by first | (with_reducible assumption) | assumption)
                       obtain ⟨ad109, e109, hx109_0⟩ := Kd.at_bool (Kd.R_reads' HO_9.out).2.2 x12_4 p109 q109
                       (try rw [← Nbq31.out] at hx109_0)
                       cases e109
                       replace p109 := eq_true p109
                       replace q109 := eq_true q109
                       have p110 : 0 ≤ (x12_4 : Int) := of_decide_eq_true (by first | (with_reducible assumption) | assumption)
                       have q110 : x12_4 < (l0.length : Int) := of_decide_eq_true (by first | (with_reducible assumption) | assumption)
                       obtain ⟨ad110, e110, hx110_0, hx110_1, hx110_2, hx110_3, hx110_4, hx110_5, hx110_6, hx110_7⟩ := at_T30 HR0.out x12_4 p110 q110
                       cases e110
                       replace hx110_0 := (HB.out.cell (blt_ hx110_0)).trans hx110_0
                       replace hx110_1 := (HB.out.cell (blt_ hx110_1)).trans hx110_1
                       replace hx110_2 := (HB.out.cell (blt_ hx110_2)).trans hx110_2
                       replace hx110_3 := (HB.out.cell (blt_ hx110_3)).trans hx110_3
                       replace hx110_4 := (HB.out.cell (blt_ hx110_4)).trans hx110_4
                       replace hx110_5 := (HB.out.cell (blt_ hx110_5)).trans hx110_5
                       replace hx110_6 := (HB.out.cell (blt_ hx110_6)).trans hx110_6
                       replace hx110_7 := (HB.out.cell (blt_ hx110_7)).trans hx110_7
                       replace p110 := eq_true p110
                       replace q110 := eq_true q110
                       go_wp2_with (first | (go_at_call 58; (with_reducible refine (lambrequinref20_Defines.calls ((rd_T30 l0 x12_4).kind) ((rd_T30 l0 x12_4).x) ((rd_T30 l0 x12_4).y) ((rd_T30 l0 x12_4).z) ((rd_T30 l0 x12_4).op) ((rd_T30 l0 x12_4).n) ((rd_T30 l0 x12_4).a) ((rd_T30 l0 x12_4).b) a2 true _ A34.out).mono ?_); rintro e w37 ⟨rfl, hb⟩; replace HO_9 := am (Kd.R_below (by (with_reducible repeat (first | apply Ra | apply Rn | apply Rd)); exact HO_9.out) hb); replace HB := am (below_step (by repeat (first | (with_reducible first | exact HB.out | apply lA | apply lN | apply lD) | exact HB.out)) hb); (try clear hb); (try clear hb2); (try clear hk); (try clear hi)))
                       go_roundg k5
                       case measure => have := HJ4.out; have := HK2.out; have := HK3.out; have := HK4.out; have := HK5.out; omega
                       case rel => exact ⟨(x9_5), (wrap64 (x13_5 + 1)), (by first | rfl | (simp; done) | (simp [*]; done)), H', ⟨by have := HJ4.out; have := HK2.out; have := HK3.out; have := HK4.out; have := HK5.out; omega⟩, ⟨by (with_reducible repeat (first | apply Ra | apply Rn | apply Rd)); exact HO_9.out⟩, ⟨by repeat (first | (with_reducible first | exact HB.out | apply lA | apply lN | apply lD) | exact HB.out)⟩⟩
                      ·replace c35 := Bool.eq_false_iff.mpr c35
                       subst c35
                       have H1 : ((lambrequinref20_Leads.f k5 l0 x12_4 x13_5).bind fun t112 => (if t112 = true then (if 0 ≤ x13_5 then (if x13_5 < (x9_5.length : Int) then (lambrequinref20_Reaches.l3 k5 l0 a1 a2 (x9_5.set (x13_5 : Int).toNat true) x11_3 x12_4 (wrap64 (x13_5 + 1))) else (none)) else (none)) else (lambrequinref20_Reaches.l3 k5 l0 a1 a2 x9_5 x11_3 x12_4 (wrap64 (x13_5 + 1))))) = some r := by rw [if_neg (show ¬ (false = true) by decide)] at H; exact H
                       clear H
                       have H := H1
                       clear H1
                       replace H := Option.bind_eq_some_iff.mp H
                       obtain ⟨t112, A380, H⟩ := H
                       replace H : (if t112 = true then (if 0 ≤ x13_5 then (if x13_5 < (x9_5.length : Int) then (lambrequinref20_Reaches.l3 k5 l0 a1 a2 (x9_5.set (x13_5 : Int).toNat true) x11_3 x12_4 (wrap64 (x13_5 + 1))) else (none)) else (none)) else (lambrequinref20_Reaches.l3 k5 l0 a1 a2 x9_5 x11_3 x12_4 (wrap64 (x13_5 + 1)))) = some r := H
                       have A38 := am A380
                       clear A380
                       by_cases c39 : t112 = true
                       ·subst c39
                        have H1 : (if 0 ≤ x13_5 then (if x13_5 < (x9_5.length : Int) then (lambrequinref20_Reaches.l3 k5 l0 a1 a2 (x9_5.set (x13_5 : Int).toNat true) x11_3 x12_4 (wrap64 (x13_5 + 1))) else (none)) else (none)) = some r := by rw [if_pos rfl] at H; exact H
                        clear H
                        have H := H1
                        clear H1
                        by_cases c40 : 0 ≤ x13_5
                        ·rw [if_pos c40] at H
                         have c40b0 : decide (0 ≤ x13_5) = true := decide_eq_true c40
                         clear c40
                         by_cases c41 : x13_5 < (x9_5.length : Int)
                         ·rw [if_pos c41] at H
                          have c41b0 : decide (x13_5 < (x9_5.length : Int)) = true := decide_eq_true c41
                          clear c41
                          obtain ⟨y113, hy113⟩ : ∃ y_ : List Bool, y_ = (x9_5.set (x13_5 : Int).toNat true) := ⟨_, rfl⟩
                          replace H : (lambrequinref20_Reaches.l3 k5 l0 a1 a2 y113 x11_3 x12_4 (wrap64 (x13_5 + 1))) = some r := by first | (rw [hy113]; with_reducible exact H) | (have H2_ := (Option.bind_some _ _).symm.trans H; rw [hy113]; with_reducible exact H2_) | (have H2_ := (Option.bind_some _ _).symm.trans H; with_reducible exact H2_) | with_reducible exact H | (rw [hy113]; exact H) | exact H
                          have Ny113 := am hy113
                          clear hy113
                          have H' := am H
                          clear H
                          obtain ⟨Ao43, co43, eo43⟩ := Kd.R_slice HO_9.out
                          subst eo43
                          have p109 : 0 ≤ (x12_4 : Int) := of_decide_eq_true (by first | (with_reducible assumption) | assumption)
                          have q109 : x12_4 < (x9_5.length : Int) := of_decide_eq_true (by first | (with_reducible assumption) | assumption)
                          obtain ⟨ad109, e109, hx109_0⟩ := Kd.at_bool (Kd.R_reads' HO_9.out).2.2 x12_4 p109 q109
                          (try rw [← Nbq31.out] at hx109_0)
                          cases e109
                          replace p109 := eq_true p109
                          replace q109 := eq_true q109
                          have p110 : 0 ≤ (x12_4 : Int) := of_decide_eq_true (by first | (with_reducible assumption) | assumption)
                          have q110 : x12_4 < (l0.length : Int) := of_decide_eq_true (by first | (with_reducible assumption) | assumption)
                          obtain ⟨ad110, e110, hx110_0, hx110_1, hx110_2, hx110_3, hx110_4, hx110_5, hx110_6, hx110_7⟩ := at_T30 HR0.out x12_4 p110 q110
                          cases e110
                          replace hx110_0 := (HB.out.cell (blt_ hx110_0)).trans hx110_0
                          replace hx110_1 := (HB.out.cell (blt_ hx110_1)).trans hx110_1
                          replace hx110_2 := (HB.out.cell (blt_ hx110_2)).trans hx110_2
                          replace hx110_3 := (HB.out.cell (blt_ hx110_3)).trans hx110_3
                          replace hx110_4 := (HB.out.cell (blt_ hx110_4)).trans hx110_4
                          replace hx110_5 := (HB.out.cell (blt_ hx110_5)).trans hx110_5
                          replace hx110_6 := (HB.out.cell (blt_ hx110_6)).trans hx110_6
                          replace hx110_7 := (HB.out.cell (blt_ hx110_7)).trans hx110_7
                          replace p110 := eq_true p110
                          replace q110 := eq_true q110
                          go_wp2_with (first | (go_at_call 58; (with_reducible refine (lambrequinref20_Defines.calls ((rd_T30 l0 x12_4).kind) ((rd_T30 l0 x12_4).x) ((rd_T30 l0 x12_4).y) ((rd_T30 l0 x12_4).z) ((rd_T30 l0 x12_4).op) ((rd_T30 l0 x12_4).n) ((rd_T30 l0 x12_4).a) ((rd_T30 l0 x12_4).b) a2 false _ A34.out).mono ?_); rintro e w44 ⟨rfl, hb⟩; replace HO_9 := am (Kd.R_below (by (with_reducible repeat (first | apply Ra | apply Rn | apply Rd)); exact HO_9.out) hb); replace HB := am (below_step (by repeat (first | (with_reducible first | exact HB.out | apply lA | apply lN | apply lD) | exact HB.out)) hb); (try clear hb); (try clear hb2); (try clear hk); (try clear hi)) | (go_at_call 53; (with_reducible refine (lambrequinref20_Leads.calls k5 _ _ l0 x12_4 x13_5 true _ ?side1 ?side2 A38.out).mono ?_); (case side1 => repeat (first | exact (Kd.C_below HR0.out HB.out) | (with_reducible refine Kd.C_alloc ?_ _) | (with_reducible refine Kd.C_drewN ?_ _) | (with_reducible refine Kd.C_drew ?_))); (case side2 => exact HC0.out); rintro e w' ⟨rfl, ⟨nd, rfl⟩⟩; (try (rw [drewN_self w44]; generalize hq_ : World.drewN w44 _ = w44; replace HO_9 : Aside0 (Kd.R Kd.bool 4 w44 w.heap.size (fun _ => True) (.slice (some ad109) x9_5.length co43) x9_5) := ⟨by rw [← hq_]; exact (by (with_reducible repeat (first | apply Ra | apply Rn | apply Rd)); exact HO_9.out)⟩; replace HB : Aside0 (Below w.heap.size w w44) := ⟨by rw [← hq_]; exact (by repeat (first | (with_reducible first | exact HB.out | apply lA | apply lN | apply lD) | exact HB.out))⟩; clear hq_)); have p42 : 0 ≤ (x13_5 : Int) := of_decide_eq_true (by first | (with_reducible assumption) | assumption); have q42 : (x13_5 : Int) < ((x9_5.length : Int) : Int) := of_decide_eq_true (by first | (with_reducible assumption) | assumption); obtain ⟨go42, co42, eo42, gb42, gl42, cl42, HG42⟩ := Kd.R_form HO_9.out (by omega); (first | cases eo42 | (injection eo42 with ea_ en_ ec_; (first | subst ea_ | (injection ea_ with ea_; subst ea_)); subst ec_; clear en_)); have GB42 := am gb42; have GG42 := am HG42; clear gb42 gl42 HG42; (first | simp only [add_plain] at hx109_0 | skip); obtain ⟨hx42_0, hf42_0⟩ := Kd.R_celln false HO_9.out (x13_5 : Int) p42 q42; replace p42 := eq_true p42; replace q42 := eq_true q42; obtain ⟨hy45_, hz45_⟩ := Kd.R_celln false HO_9.out (x13_5 : Int) (of_decide_eq_true (by first | (with_reducible assumption) | assumption)) (of_decide_eq_true (by first | (with_reducible assumption) | assumption)); have HP45 := Kd.R_putg HO_9.out (x13_5 : Int) true) | ((with_reducible refine gate_store (t := 4) (p := 96) rfl ?_); refine store_event (t := 4) (p := 96) (v := ?vo_w46) (w1 := (w44.setCell ⟨go42, (x13_5 : Int).toNat, none⟩ (.bool true))) ?hg ?ho ?hn ?hr ?_; (case ho => rfl); (case hg => rfl); (case hn => rfl); (case hr => first | (go_simp; done) | (go_simp; rfl)); intro w46 hw; have hg : w44.grownBy w46 (some go42) := (by rw [hw]; exact HP45.2); have hp_ : Kd.R Kd.bool 4 w46 w.heap.size (fun _ => True) (.slice (some ⟨go42, 0, none⟩) x9_5.length co43) y113 := (by rw [hw, Ny113.out]; exact HP45.1); clear HP45; replace HO_9 := am (hp_); replace HB := am ((by rw [hw]; exact below_set (HB.out) GB42.out : Below w.heap.size w w46)); clear hg hw hp_))
                          go_roundg k5
                          case measure => have := HJ4.out; have := HK2.out; have := HK3.out; have := HK4.out; have := HK5.out; omega
                          case rel => exact ⟨(y113), (wrap64 (x13_5 + 1)), (by first | rfl | (simp; done) | (simp [*]; done)), H', ⟨by have := HJ4.out; have := HK2.out; have := HK3.out; have := HK4.out; have := HK5.out; omega⟩, ⟨by (with_reducible repeat (first | apply Ra | apply Rn | apply Rd)); exact HO_9.out⟩, ⟨by repeat (first | (with_reducible first | exact HB.out | apply lA | apply lN | apply lD) | exact HB.out)⟩⟩
                         ·rw [if_neg c41] at H
                          exact absurd H (by simp)
                        ·rw [if_neg c40] at H
                         exact absurd H (by simp)
                       ·replace c39 := Bool.eq_false_iff.mpr c39
                        subst c39
                        have H1 : (lambrequinref20_Reaches.l3 k5 l0 a1 a2 x9_5 x11_3 x12_4 (wrap64 (x13_5 + 1))) = some r := by rw [if_neg (show ¬ (false = true) by decide)] at H; exact H
                        clear H
                        have H := H1
                        clear H1
                        have H' := am H
                        clear H
                        obtain ⟨Ao47, co47, eo47⟩ := Kd.R_slice HO_9.out
                        subst eo47
                        have p109 : 0 ≤ (x12_4 : Int) := of_decide_eq_true (by first | (with_reducible assumption) | assumption)
                        have q109 : x12_4 < (x9_5.length : Int) := of_decide_eq_true (by first | (with_reducible assumption) | assumption)
                        obtain ⟨ad109, e109, hx109_0⟩ := Kd.at_bool (Kd.R_reads' HO_9.out).2.2 x12_4 p109 q109
                        (try rw [← Nbq31.out] at hx109_0)
                        cases e109
                        replace p109 := eq_true p109
                        replace q109 := eq_true q109
                        have p110 : 0 ≤ (x12_4 : Int) := of_decide_eq_true (by first | (with_reducible assumption) | assumption)
                        have q110 : x12_4 < (l0.length : Int) := of_decide_eq_true (by first | (with_reducible assumption) | assumption)
                        obtain ⟨ad110, e110, hx110_0, hx110_1, hx110_2, hx110_3, hx110_4, hx110_5, hx110_6, hx110_7⟩ := at_T30 HR0.out x12_4 p110 q110
                        cases e110
                        replace hx110_0 := (HB.out.cell (blt_ hx110_0)).trans hx110_0
                        replace hx110_1 := (HB.out.cell (blt_ hx110_1)).trans hx110_1
                        replace hx110_2 := (HB.out.cell (blt_ hx110_2)).trans hx110_2
                        replace hx110_3 := (HB.out.cell (blt_ hx110_3)).trans hx110_3
                        replace hx110_4 := (HB.out.cell (blt_ hx110_4)).trans hx110_4
                        replace hx110_5 := (HB.out.cell (blt_ hx110_5)).trans hx110_5
                        replace hx110_6 := (HB.out.cell (blt_ hx110_6)).trans hx110_6
                        replace hx110_7 := (HB.out.cell (blt_ hx110_7)).trans hx110_7
                        replace p110 := eq_true p110
                        replace q110 := eq_true q110
                        go_wp2_with (first | (go_at_call 58; (with_reducible refine (lambrequinref20_Defines.calls ((rd_T30 l0 x12_4).kind) ((rd_T30 l0 x12_4).x) ((rd_T30 l0 x12_4).y) ((rd_T30 l0 x12_4).z) ((rd_T30 l0 x12_4).op) ((rd_T30 l0 x12_4).n) ((rd_T30 l0 x12_4).a) ((rd_T30 l0 x12_4).b) a2 false _ A34.out).mono ?_); rintro e w48 ⟨rfl, hb⟩; replace HO_9 := am (Kd.R_below (by (with_reducible repeat (first | apply Ra | apply Rn | apply Rd)); exact HO_9.out) hb); replace HB := am (below_step (by repeat (first | (with_reducible first | exact HB.out | apply lA | apply lN | apply lD) | exact HB.out)) hb); (try clear hb); (try clear hb2); (try clear hk); (try clear hi)) | (go_at_call 53; (with_reducible refine (lambrequinref20_Leads.calls k5 _ _ l0 x12_4 x13_5 false _ ?side1 ?side2 A38.out).mono ?_); (case side1 => repeat (first | exact (Kd.C_below HR0.out HB.out) | (with_reducible refine Kd.C_alloc ?_ _) | (with_reducible refine Kd.C_drewN ?_ _) | (with_reducible refine Kd.C_drew ?_))); (case side2 => exact HC0.out); rintro e w' ⟨rfl, ⟨nd, rfl⟩⟩))
                        go_roundg k5
                        case measure => have := HJ4.out; have := HK2.out; have := HK3.out; have := HK4.out; have := HK5.out; omega
                        case rel => exact ⟨(x9_5), (wrap64 (x13_5 + 1)), (by first | rfl | (simp; done) | (simp [*]; done)), H', ⟨by have := HJ4.out; have := HK2.out; have := HK3.out; have := HK4.out; have := HK5.out; omega⟩, ⟨by (with_reducible repeat (first | apply Ra | apply Rn | apply Rd)); exact HO_9.out⟩, ⟨by repeat (first | (with_reducible first | exact HB.out | apply lA | apply lN | apply lD) | exact HB.out)⟩⟩
                     ·rw [if_neg c33] at H
                      exact absurd H (by simp)
                    ·replace c32 := Bool.eq_false_iff.mpr c32
                     subst c32
                     have H1 : (lambrequinref20_Reaches.l3 k5 l0 a1 a2 x9_5 x11_3 x12_4 (wrap64 (x13_5 + 1))) = some r := by rw [if_neg (show ¬ (false = true) by decide)] at H; exact H
                     clear H
                     have H := H1
                     clear H1
                     have H' := am H
                     clear H
                     obtain ⟨Ao49, co49, eo49⟩ := Kd.R_slice HO_9.out
                     subst eo49
                     have p109 : 0 ≤ (x12_4 : Int) := of_decide_eq_true (by first | (with_reducible assumption) | assumption)
                     have q109 : x12_4 < (x9_5.length : Int) := of_decide_eq_true (by first | (with_reducible assumption) | assumption)
                     obtain ⟨ad109, e109, hx109_0⟩ := Kd.at_bool (Kd.R_reads' HO_9.out).2.2 x12_4 p109 q109
                     (try rw [← Nbq31.out] at hx109_0)
                     cases e109
                     replace p109 := eq_true p109
                     replace q109 := eq_true q109
                     go_wp2
                     go_roundg k5
                     case measure => have := HJ4.out; have := HK2.out; have := HK3.out; have := HK4.out; have := HK5.out; omega
                     case rel => exact ⟨(x9_5), (wrap64 (x13_5 + 1)), (by first | rfl | (simp; done) | (simp [*]; done)), H', ⟨by have := HJ4.out; have := HK2.out; have := HK3.out; have := HK4.out; have := HK5.out; omega⟩, ⟨by (with_reducible repeat (first | apply Ra | apply Rn | apply Rd)); exact HO_9.out⟩, ⟨by repeat (first | (with_reducible first | exact HB.out | apply lA | apply lN | apply lD) | exact HB.out)⟩⟩
                   ·rw [if_neg c30] at H
                    exact absurd H (by simp)
                  ·rw [if_neg c29] at H
                   exact absurd H (by simp)
                 ·rw [if_neg c28] at H
                  have c28b0 : decide (x13_5 < (l0.length : Int)) = false := decide_eq_false c28
                  clear c28
                  have H' := am H
                  clear H
                  go_wp2
                  go_roundg k5
                  case measure => have := HJ4.out; have := HK2.out; have := HK3.out; have := HK4.out; have := HK5.out; omega
                  case rel => exact ⟨(x9_5), (wrap64 (x12_4 + 1)), (by first | rfl | (simp; done) | (simp [*]; done)), H', ⟨by have := HJ4.out; have := HK2.out; have := HK3.out; have := HK4.out; have := HK5.out; omega⟩, ⟨by (with_reducible repeat (first | apply Ra | apply Rn | apply Rd)); exact HO_9.out⟩, ⟨by repeat (first | (with_reducible first | exact HB.out | apply lA | apply lN | apply lD) | exact HB.out)⟩⟩
              ·rw [if_neg c27] at H
               have c27b0 : decide (x12_4 < (l0.length : Int)) = false := decide_eq_false c27
               clear c27
               have H' := am H
               clear H
               go_wp2
               go_roundg k4
               case measure => have := HJ4.out; have := HK2.out; have := HK3.out; have := HK4.out; omega
               case rel => exact ⟨(x9_4), (wrap64 (x11_3 + 1)), (by first | rfl | (simp; done) | (simp [*]; done)), H', ⟨by have := HJ4.out; have := HK2.out; have := HK3.out; have := HK4.out; omega⟩, ⟨by (with_reducible repeat (first | apply Ra | apply Rn | apply Rd)); exact HO_9.out⟩, ⟨by repeat (first | (with_reducible first | exact HB.out | apply lA | apply lN | apply lD) | exact HB.out)⟩⟩
           ·rw [if_neg c26] at H
            have c26b0 : decide (x11_3 < (l0.length : Int)) = false := decide_eq_false c26
            clear c26
            by_cases c50 : 0 ≤ a1
            ·rw [if_pos c50] at H
             have c50b0 : decide (0 ≤ a1) = true := decide_eq_true c50
             clear c50
             by_cases c51 : a1 < (x9_3.length : Int)
             ·rw [if_pos c51] at H
              have c51b0 : decide (a1 < (x9_3.length : Int)) = true := decide_eq_true c51
              clear c51
              obtain rfl := Option.some.inj H
              obtain ⟨Ao52, co52, eo52⟩ := Kd.R_slice HO_9.out
              subst eo52
              have p108 : 0 ≤ (a1 : Int) := of_decide_eq_true (by first | (with_reducible assumption) | assumption)
              have q108 : a1 < (x9_3.length : Int) := of_decide_eq_true (by first | (with_reducible assumption) | assumption)
              obtain ⟨ad108, e108, hx108_0⟩ := Kd.at_bool (Kd.R_reads' HO_9.out).2.2 a1 p108 q108
              cases e108
              replace p108 := eq_true p108
              replace q108 := eq_true q108
              go_wp2
              go_ret
              exact ⟨by first | rfl | (simp [errW_none, errW_some] <;> rfl) | (simp [*, errW_none, errW_some] <;> rfl), by repeat (first | (with_reducible first | exact HB.out | apply lA | apply lN | apply lD) | exact HB.out)⟩
             ·rw [if_neg c51] at H
              exact absurd H (by simp)
            ·rw [if_neg c50] at H
             exact absurd H (by simp)
     ·rw [if_neg c16] at H
      exact absurd H (by simp)
    ·rw [if_neg c15] at H
     exact absurd H (by simp)
end Go.Proofs.Ytnepgcbgkhikkaa.H

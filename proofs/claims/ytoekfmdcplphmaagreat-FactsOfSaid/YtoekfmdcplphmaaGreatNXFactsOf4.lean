/- RowFactsOf of the seat's law FactsOf: the law holds, under the statement's own conditions. -/
import Derived.Test.YtoekfmdcplphmaaGreatNXFactsOf
import Derived.Test.YtoekfmdcplphmaaGreatNXFactsOf3
import Derived.Test.YtoekfmdcplphmaaGreatNXFactsOf1
import Derived.Sort.Walk0
set_option linter.unusedVariables false
set_option linter.unusedSimpArgs false
set_option linter.unusedSectionVars false
namespace Go.Proofs.YtoekfmdcplphmaaGreat.H
open Go.RowKit Go.Proofs.YtoekfmdcplphmaaGreatW.PrintWords Go.Proofs.YtoekfmdcplphmaaGreatW.PrintLast Go.Proofs.YtoekfmdcplphmaaGreatW.PrintMore
attribute [local go_sem] max2_int min2_int max_two min_two max_three min_three max_four min_four
mutual
def lambrequinref09_Sorted.l0 : Nat → List ByteArray → List ByteArray → Int → Option (List ByteArray)
 | 0, _, _, _ => none
 | k + 1, x0, x3, x4 => if x4 < (x0.length : Int) then (if 0 ≤ x4 then ((lambrequinref09_In.f k x3 (rdOf ByteArray.empty x0 x4)).bind fun t102 => (if t102 = true then (lambrequinref09_Sorted.l0 k x0 x3 (wrap64 (x4 + 1))) else (lambrequinref09_Sorted.l1 k x0 x3 x4 (x3.length : Int)))) else (none)) else (some x3)
def lambrequinref09_Sorted.l1 : Nat → List ByteArray → List ByteArray → Int → Int → Option (List ByteArray)
 | 0, _, _, _, _ => none
 | k + 1, x0, x3, x4, x5 => if x5 > 0 then (if 0 ≤ (wrap64 (x5 - 1)) then (if (wrap64 (x5 - 1)) < (x3.length : Int) then (if 0 ≤ x4 then (if x4 < (x0.length : Int) then (lambrequinref09_Sorted.j2 k x0 x3 x4 x5 (Op.bytesLess ((rdOf ByteArray.empty x0 x4).toList) ((rdOf ByteArray.empty x3 (wrap64 (x5 - 1))).toList))) else (none)) else (none)) else (none)) else (none)) else (lambrequinref09_Sorted.j2 k x0 x3 x4 x5 false)
def lambrequinref09_Sorted.j2 : Nat → List ByteArray → List ByteArray → Int → Int → Bool → Option (List ByteArray)
 | 0, _, _, _, _, _ => none
 | k + 1, x0, x3, x4, x5, x34 => if x34 = true then (lambrequinref09_Sorted.l1 k x0 x3 x4 (wrap64 (x5 - 1))) else ((some (([] : List ByteArray) : List ByteArray)).bind fun y105 => (if 0 ≤ x5 then (if x5 ≤ (x3.length : Int) then ((some (x3.take (x5 : Int).toNat : List ByteArray)).bind fun y108 => (if y105.length + y108.length < 8796093022208 then ((some (y105 ++ y108 : List ByteArray)).bind fun y112 => (if 0 ≤ x4 then (if x4 < (x0.length : Int) then (if y112.length < 8796093022208 then ((some (y112 ++ [rdOf ByteArray.empty x0 x4] : List ByteArray)).bind fun y116 => ((some (x3.drop (x5 : Int).toNat : List ByteArray)).bind fun y119 => (if y116.length + y119.length < 8796093022208 then (lambrequinref09_Sorted.l0 k x0 (y116 ++ y119) (wrap64 (x4 + 1))) else (none)))) else (none)) else (none)) else (none))) else (none))) else (none)) else (none)))
end
def lambrequinref09_Sorted.f (k : Nat) (l0 : List ByteArray) : Option (List ByteArray) := lambrequinref09_Sorted.l0 k l0 ([] : List ByteArray) 0
theorem lambrequinref09_Sorted.mono_l : ∀ k, (∀ y0 y1 y2, LeO (lambrequinref09_Sorted.l0 k y0 y1 y2) (lambrequinref09_Sorted.l0 (k + 1) y0 y1 y2)) ∧ (∀ y0 y1 y2 y3, LeO (lambrequinref09_Sorted.l1 k y0 y1 y2 y3) (lambrequinref09_Sorted.l1 (k + 1) y0 y1 y2 y3)) ∧ (∀ y0 y1 y2 y3 y4, LeO (lambrequinref09_Sorted.j2 k y0 y1 y2 y3 y4) (lambrequinref09_Sorted.j2 (k + 1) y0 y1 y2 y3 y4))
 | 0 => ⟨fun _ _ _ r h => by simp [lambrequinref09_Sorted.l0] at h, fun _ _ _ _ r h => by simp [lambrequinref09_Sorted.l1] at h, fun _ _ _ _ _ r h => by simp [lambrequinref09_Sorted.j2] at h⟩
 | k + 1 => by
  obtain ⟨ih0, ih1, ih2⟩ := lambrequinref09_Sorted.mono_l k
  refine ⟨?_, ?_, ?_⟩
  ·intro y0 y1 y2
   unfold lambrequinref09_Sorted.l0
   repeat' first
   | (with_reducible exact ih0 _ _ _)
   | (with_reducible exact ih1 _ _ _ _)
   | (with_reducible exact ih2 _ _ _ _ _)
   | (with_reducible exact lambrequinref09_In.mono _ _ _)
   | (with_reducible exact LeO.refl _)
   | (with_reducible exact LeO.none _)
   | (with_reducible refine LeO.ite ?_ ?_)
   | (with_reducible refine LeO.bind ?_ (fun _ => ?_))
   | exact ih0 _ _ _
   | exact ih1 _ _ _ _
   | exact ih2 _ _ _ _ _
   | exact lambrequinref09_In.mono _ _ _
   | exact LeO.none _
   | refine LeO.ite ?_ ?_
   | refine LeO.bind ?_ (fun _ => ?_)
  ·intro y0 y1 y2 y3
   unfold lambrequinref09_Sorted.l1
   repeat' first
   | (with_reducible exact ih0 _ _ _)
   | (with_reducible exact ih1 _ _ _ _)
   | (with_reducible exact ih2 _ _ _ _ _)
   | (with_reducible exact lambrequinref09_In.mono _ _ _)
   | (with_reducible exact LeO.refl _)
   | (with_reducible exact LeO.none _)
   | (with_reducible refine LeO.ite ?_ ?_)
   | (with_reducible refine LeO.bind ?_ (fun _ => ?_))
   | exact ih0 _ _ _
   | exact ih1 _ _ _ _
   | exact ih2 _ _ _ _ _
   | exact lambrequinref09_In.mono _ _ _
   | exact LeO.none _
   | refine LeO.ite ?_ ?_
   | refine LeO.bind ?_ (fun _ => ?_)
  intro y0 y1 y2 y3 y4
  unfold lambrequinref09_Sorted.j2
  repeat' first
  | (with_reducible exact ih0 _ _ _)
  | (with_reducible exact ih1 _ _ _ _)
  | (with_reducible exact ih2 _ _ _ _ _)
  | (with_reducible exact lambrequinref09_In.mono _ _ _)
  | (with_reducible exact LeO.refl _)
  | (with_reducible exact LeO.none _)
  | (with_reducible refine LeO.ite ?_ ?_)
  | (with_reducible refine LeO.bind ?_ (fun _ => ?_))
  | exact ih0 _ _ _
  | exact ih1 _ _ _ _
  | exact ih2 _ _ _ _ _
  | exact lambrequinref09_In.mono _ _ _
  | exact LeO.none _
  | refine LeO.ite ?_ ?_
  | refine LeO.bind ?_ (fun _ => ?_)
theorem lambrequinref09_Sorted.mono : ∀ a0 k, LeO (lambrequinref09_Sorted.f k a0) (lambrequinref09_Sorted.f (k + 1) a0) := by
 intro a0 k
 obtain ⟨ih0, ih1, ih2⟩ := lambrequinref09_Sorted.mono_l k
 unfold lambrequinref09_Sorted.f
 repeat' first
   | (with_reducible exact ih0 _ _ _)
   | (with_reducible exact ih1 _ _ _ _)
   | (with_reducible exact ih2 _ _ _ _ _)
   | (with_reducible exact lambrequinref09_In.mono _ _ _)
   | (with_reducible exact LeO.refl _)
   | (with_reducible exact LeO.none _)
   | (with_reducible refine LeO.ite ?_ ?_)
   | (with_reducible refine LeO.bind ?_ (fun _ => ?_))
   | exact ih0 _ _ _
   | exact ih1 _ _ _ _
   | exact ih2 _ _ _ _ _
   | exact lambrequinref09_In.mono _ _ _
   | exact LeO.none _
   | refine LeO.ite ?_ ?_
   | refine LeO.bind ?_ (fun _ => ?_)
set_option maxHeartbeats 8000000 in
set_option maxRecDepth 100000 in
theorem lambrequinref09_Sorted.calls (k : Nat) (A0 : Option Addr) (c0 : Nat) (l0 : List ByteArray) (r : List ByteArray) (w : World) (hr0 : Kd.C Kd.string w A0 l0.length l0) (hc0 : l0.length ≤ c0) (h : lambrequinref09_Sorted.f k l0 = some r) :
  Calls Tryz.prog 36 #[.slice A0 l0.length c0] w fun e w' => ∃ v0_ : Value, e = .returned (v0_) ∧ Kd.R Kd.string 9 w' w.heap.size (fun _ => True) v0_ r ∧ Below w.heap.size w w' := by
 have HR0 := am hr0
 have HC0 := am hc0
 clear hr0 hc0
 have HB := am (Below.refl w.heap.size w)
 have H : (lambrequinref09_Sorted.l0 k l0 ([] : List ByteArray) 0) = some r := h
 clear h
 have H' := am H
 clear H
 go_enter Tryz.func36, Tryz.ntmps36
 go_wp2
 repeat (go_quiet (fail); try go_wp2)
 go_loopg [3, 4] k (fun kq v3 v4 w' => ∃ (x3_1 : List ByteArray) (x4_1 : Int), v4 = .int .i64 x4_1 ∧ Aside0 (lambrequinref09_Sorted.l0 kq l0 x3_1 x4_1 = some r) ∧ Aside0 (kq ≤ k) ∧ Aside0 (Kd.R Kd.string 9 w' w.heap.size (fun _ => True) v3 x3_1) ∧ Aside0 (Below w.heap.size w w'))
 case atStart => exact ⟨(([] : List ByteArray)), (0), rs_, H', ⟨Nat.le_refl _⟩, ⟨by first | exact Kd.R_nil _ _ _ _ _ | exact Kd.N_nil _ _ _ _ _ | exact Kd.V_nil _ _ _ _ _ | exact Kd.Q_nil _ _ _ _ _ | exact Kd.S_nil _ _ _ _ _⟩, ⟨pL HB.out⟩⟩
 case round =>
  clear H'
  obtain ⟨x3_1, x4_1, rfl, HA, HK1, HO_3, HB⟩ := hrel
  cases gk with
  | zero => exact absurd HA.out (by simp [lambrequinref09_Sorted.l0])
  | succ k1 =>
   have H := HA.out
   clear HA
   simp only [lambrequinref09_Sorted.l0] at H
   by_cases c2 : x4_1 < (l0.length : Int)
   rotate_left
   ·rw [if_neg c2] at H
    have c2b0 : decide (x4_1 < (l0.length : Int)) = false := decide_eq_false c2
    clear c2
    obtain rfl := Option.some.inj H
    go_wp2
    repeat (go_quiet (fail); try go_wp2)
    go_ret
    exact ⟨_, er_, by (with_reducible repeat (first | apply Ra | apply Rn | apply Rd)); exact HO_3.out, pL HB.out⟩
   rw [if_pos c2] at H
   have c2b0 : decide (x4_1 < (l0.length : Int)) = true := decide_eq_true c2
   clear c2
   by_cases c3 : 0 ≤ x4_1
   rotate_left
   ·rw [if_neg c3] at H
    exact absurd H (by simp)
   rw [if_pos c3] at H
   have c3b0 : decide (0 ≤ x4_1) = true := decide_eq_true c3
   clear c3
   replace H := Option.bind_eq_some_iff.mp H
   obtain ⟨t102, A40, H⟩ := H
   replace H : (if t102 = true then (lambrequinref09_Sorted.l0 k1 l0 x3_1 (wrap64 (x4_1 + 1))) else (lambrequinref09_Sorted.l1 k1 l0 x3_1 x4_1 (x3_1.length : Int))) = some r := H
   have A4 := am A40
   clear A40
   by_cases c5 : t102 = true
   ·subst c5
    have H1 : (lambrequinref09_Sorted.l0 k1 l0 x3_1 (wrap64 (x4_1 + 1))) = some r := by rw [if_pos rfl] at H; exact H
    clear H
    have H := H1
    clear H1
    have H' := am H
    clear H
    have p101 : 0 ≤ (x4_1 : Int) := dt_
    have q101 : x4_1 < (l0.length : Int) := dt_
    obtain ⟨ad101, e101, hx101_0⟩ := Kd.at_string HR0.out x4_1 p101 q101
    cases e101
    replace hx101_0 := up_ HB.out hx101_0
    replace p101 := eq_true p101
    replace q101 := eq_true q101
    obtain ⟨Ao6, co6, eo6⟩ := Kd.R_slice HO_3.out
    subst eo6
    go_wp2_with (first | (go_at_call 53; (with_reducible refine (lambrequinref09_In.calls k1 _ _ x3_1 (rdOf ByteArray.empty l0 x4_1) true _ ?side1 ?side2 A4.out).mono ?_); (case side1 => repeat (first | exact (Kd.R_reads' HO_3.out).2.2 | (with_reducible refine Kd.C_alloc ?_ _) | (with_reducible refine Kd.C_drewN ?_ _) | (with_reducible refine Kd.C_drew ?_))); (case side2 => exact (Kd.R_reads' HO_3.out).2.1); rintro e w' ⟨rfl, ⟨nd, rfl⟩⟩; (try first | exact ⟨rfl, _, World.drewN_drewN _ _ _⟩ | exact ⟨rfl, _, Eq.trans (World.drewN_drewN _ _ _) (congrArg (World.drewN _) (Nat.add_assoc _ _ _))⟩)))
    repeat (go_quiet (first | (go_at_call 53; (with_reducible refine (lambrequinref09_In.calls k1 _ _ x3_1 (rdOf ByteArray.empty l0 x4_1) true _ ?side1 ?side2 A4.out).mono ?_); (case side1 => repeat (first | exact (Kd.R_reads' HO_3.out).2.2 | (with_reducible refine Kd.C_alloc ?_ _) | (with_reducible refine Kd.C_drewN ?_ _) | (with_reducible refine Kd.C_drew ?_))); (case side2 => exact (Kd.R_reads' HO_3.out).2.1); rintro e w' ⟨rfl, ⟨nd, rfl⟩⟩; (try first | exact ⟨rfl, _, World.drewN_drewN _ _ _⟩ | exact ⟨rfl, _, Eq.trans (World.drewN_drewN _ _ _) (congrArg (World.drewN _) (Nat.add_assoc _ _ _))⟩))); try go_wp2_with (first | (go_at_call 53; (with_reducible refine (lambrequinref09_In.calls k1 _ _ x3_1 (rdOf ByteArray.empty l0 x4_1) true _ ?side1 ?side2 A4.out).mono ?_); (case side1 => repeat (first | exact (Kd.R_reads' HO_3.out).2.2 | (with_reducible refine Kd.C_alloc ?_ _) | (with_reducible refine Kd.C_drewN ?_ _) | (with_reducible refine Kd.C_drew ?_))); (case side2 => exact (Kd.R_reads' HO_3.out).2.1); rintro e w' ⟨rfl, ⟨nd, rfl⟩⟩; (try first | exact ⟨rfl, _, World.drewN_drewN _ _ _⟩ | exact ⟨rfl, _, Eq.trans (World.drewN_drewN _ _ _) (congrArg (World.drewN _) (Nat.add_assoc _ _ _))⟩))))
    go_roundg k1
    case measure => have := HK1.out; omega
    case rel => exact ⟨(x3_1), (wrap64 (x4_1 + 1)), rs_, H', ⟨by have := HK1.out; omega⟩, ⟨pR HO_3.out⟩, ⟨pL HB.out⟩⟩
   replace c5 := Bool.eq_false_iff.mpr c5
   subst c5
   have H1 : (lambrequinref09_Sorted.l1 k1 l0 x3_1 x4_1 (x3_1.length : Int)) = some r := by rw [if_neg (show ¬ (false = true) by decide)] at H; exact H
   clear H
   have H := H1
   clear H1
   have H' := am H
   clear H
   have p101 : 0 ≤ (x4_1 : Int) := dt_
   have q101 : x4_1 < (l0.length : Int) := dt_
   obtain ⟨ad101, e101, hx101_0⟩ := Kd.at_string HR0.out x4_1 p101 q101
   cases e101
   replace hx101_0 := up_ HB.out hx101_0
   replace p101 := eq_true p101
   replace q101 := eq_true q101
   obtain ⟨Ao7, co7, eo7⟩ := Kd.R_slice HO_3.out
   subst eo7
   go_wp2_with (first | (go_at_call 53; (with_reducible refine (lambrequinref09_In.calls k1 _ _ x3_1 (rdOf ByteArray.empty l0 x4_1) false _ ?side1 ?side2 A4.out).mono ?_); (case side1 => repeat (first | exact (Kd.R_reads' HO_3.out).2.2 | (with_reducible refine Kd.C_alloc ?_ _) | (with_reducible refine Kd.C_drewN ?_ _) | (with_reducible refine Kd.C_drew ?_))); (case side2 => exact (Kd.R_reads' HO_3.out).2.1); rintro e w' ⟨rfl, ⟨nd, rfl⟩⟩; (try first | exact ⟨rfl, _, World.drewN_drewN _ _ _⟩ | exact ⟨rfl, _, Eq.trans (World.drewN_drewN _ _ _) (congrArg (World.drewN _) (Nat.add_assoc _ _ _))⟩)))
   repeat (go_quiet (first | (go_at_call 53; (with_reducible refine (lambrequinref09_In.calls k1 _ _ x3_1 (rdOf ByteArray.empty l0 x4_1) false _ ?side1 ?side2 A4.out).mono ?_); (case side1 => repeat (first | exact (Kd.R_reads' HO_3.out).2.2 | (with_reducible refine Kd.C_alloc ?_ _) | (with_reducible refine Kd.C_drewN ?_ _) | (with_reducible refine Kd.C_drew ?_))); (case side2 => exact (Kd.R_reads' HO_3.out).2.1); rintro e w' ⟨rfl, ⟨nd, rfl⟩⟩; (try first | exact ⟨rfl, _, World.drewN_drewN _ _ _⟩ | exact ⟨rfl, _, Eq.trans (World.drewN_drewN _ _ _) (congrArg (World.drewN _) (Nat.add_assoc _ _ _))⟩))); try go_wp2_with (first | (go_at_call 53; (with_reducible refine (lambrequinref09_In.calls k1 _ _ x3_1 (rdOf ByteArray.empty l0 x4_1) false _ ?side1 ?side2 A4.out).mono ?_); (case side1 => repeat (first | exact (Kd.R_reads' HO_3.out).2.2 | (with_reducible refine Kd.C_alloc ?_ _) | (with_reducible refine Kd.C_drewN ?_ _) | (with_reducible refine Kd.C_drew ?_))); (case side2 => exact (Kd.R_reads' HO_3.out).2.1); rintro e w' ⟨rfl, ⟨nd, rfl⟩⟩; (try first | exact ⟨rfl, _, World.drewN_drewN _ _ _⟩ | exact ⟨rfl, _, Eq.trans (World.drewN_drewN _ _ _) (congrArg (World.drewN _) (Nat.add_assoc _ _ _))⟩))))
   go_loopg [5] k1 (fun kq v5 w' => ∃ (x5_2 : Int), v5 = .int .i64 x5_2 ∧ Aside0 (lambrequinref09_Sorted.l1 kq l0 x3_1 x4_1 x5_2 = some r) ∧ Aside0 (kq ≤ k1) ∧ Aside0 (Kd.R Kd.string 9 w' w.heap.size (fun _ => True) (.slice Ao7 x3_1.length co7) x3_1) ∧ Aside0 (Below w.heap.size w w'))
   case atStart => exact ⟨((x3_1.length : Int)), rs_, H', ⟨Nat.le_refl _⟩, ⟨pR HO_3.out⟩, ⟨pL HB.out⟩⟩
   case round =>
    clear H'
    try clear p1
    try clear q1
    try clear hx1
    try clear c2
    try clear c2b0
    try clear p2
    try clear c3
    try clear c3b0
    try clear c5
    try clear p6
    try clear hx101_0
    try clear p101
    try clear q101
    obtain ⟨x5_2, rfl, HA, HK2, HO_3, HB⟩ := hrel
    cases gk with
    | zero => exact absurd HA.out (by simp [lambrequinref09_Sorted.l1])
    | succ k2 =>
     have H := HA.out
     clear HA
     simp only [lambrequinref09_Sorted.l1] at H
     have HC8 := am H
     clear H
     go_upto_region 7 with (fail)
     repeat (go_quiet (fail); go_upto_region 7 with (fail))
     go_cut [34] (fun v34 wc => ∃ (kq : Nat) (x34_7 : Bool), v34 = .bool x34_7 ∧ Aside0 (lambrequinref09_Sorted.j2 kq l0 x3_1 x4_1 x5_2 x34_7 = some r) ∧ Aside0 (kq ≤ k2) ∧ Aside0 (Kd.R Kd.string 9 wc w.heap.size (fun _ => True) (.slice Ao7 x3_1.length co7) x3_1) ∧ Aside0 (Below w.heap.size w wc))
     case first =>
      have H := HC8.out
      clear HC8
      by_cases c9 : x5_2 > 0
      rotate_left
      ·rw [if_neg c9] at H
       have c9b0 : decide (0 < x5_2) = false := decide_eq_false c9
       clear c9
       (first | rw [c9b0] | (simp only [i64_w, i32_w]; rw [c9b0]) | skip)
       have H' := am H
       clear H
       go_wp2
       repeat (go_quiet (fail); try go_wp2)
       go_meet
       case rel => exact ⟨_, (false), rs_, H', ⟨by have := HK1.out; have := HK2.out; first | omega | exact Nat.le_refl _⟩, ⟨pR HO_3.out⟩, ⟨pL HB.out⟩⟩
      rw [if_pos c9] at H
      have c9b0 : decide (0 < x5_2) = true := decide_eq_true c9
      clear c9
      (first | rw [c9b0] | (simp only [i64_w, i32_w]; rw [c9b0]) | skip)
      obtain ⟨ji10, hji10⟩ : ∃ j_ : Int, (wrap64 (x5_2 - 1)) = j_ := ⟨_, rfl⟩
      replace H : (if 0 ≤ (ji10) then (if (ji10) < (x3_1.length : Int) then (if 0 ≤ x4_1 then (if x4_1 < (l0.length : Int) then (lambrequinref09_Sorted.j2 k2 l0 x3_1 x4_1 x5_2 (Op.bytesLess ((rdOf ByteArray.empty l0 x4_1).toList) ((rdOf ByteArray.empty x3_1 (ji10)).toList))) else (none)) else (none)) else (none)) else (none)) = some r := by first | (rw [hji10] at H; exact H) | (simp only [hji10] at H ⊢; exact H)
      have hji10w : (IntKind.i64.wrap (x5_2 - 1)) = ji10 := (i64_w _).trans hji10
      by_cases c11 : 0 ≤ (ji10)
      rotate_left
      ·rw [if_neg c11] at H
       exact absurd H (by simp)
      rw [if_pos c11] at H
      have c11b0 : decide (0 ≤ (ji10)) = true := decide_eq_true c11
      clear c11
      by_cases c12 : (ji10) < (x3_1.length : Int)
      rotate_left
      ·rw [if_neg c12] at H
       exact absurd H (by simp)
      rw [if_pos c12] at H
      have c12b0 : decide ((ji10) < (x3_1.length : Int)) = true := decide_eq_true c12
      clear c12
      by_cases c13 : 0 ≤ x4_1
      ·rw [if_pos c13] at H
       have c13b0 : decide (0 ≤ x4_1) = true := decide_eq_true c13
       clear c13
       by_cases c14 : x4_1 < (l0.length : Int)
       ·rw [if_pos c14] at H
        have c14b0 : decide (x4_1 < (l0.length : Int)) = true := decide_eq_true c14
        clear c14
        have H' := am H
        clear H
        have p103 : 0 ≤ ((ji10) : Int) := dt_
        have q103 : (ji10) < (x3_1.length : Int) := dt_
        obtain ⟨ad103, e103, hx103_0⟩ := Kd.at_string (Kd.R_reads' HO_3.out).2.2 (ji10) p103 q103
        cases e103
        replace p103 := eq_true p103
        replace q103 := eq_true q103
        have p104 : 0 ≤ (x4_1 : Int) := dt_
        have q104 : x4_1 < (l0.length : Int) := dt_
        obtain ⟨ad104, e104, hx104_0⟩ := Kd.at_string HR0.out x4_1 p104 q104
        obtain rfl : ad101 = ad104 := (by injection e104)
        replace hx104_0 := up_ HB.out hx104_0
        replace p104 := eq_true p104
        replace q104 := eq_true q104
        go_wp2
        repeat (go_quiet (fail); try go_wp2)
        go_meet
        case rel => exact ⟨_, ((Op.bytesLess ((rdOf ByteArray.empty l0 x4_1).toList) ((rdOf ByteArray.empty x3_1 (ji10)).toList))), (by first | rfl | (simp; done) | (simp only [← hji10] <;> (first | rfl | simp)) | (simp [*]; done)), H', ⟨by have := HK1.out; have := HK2.out; first | omega | exact Nat.le_refl _⟩, ⟨pR HO_3.out⟩, ⟨pL HB.out⟩⟩
       rw [if_neg c14] at H
       exact absurd H (by simp)
      rw [if_neg c13] at H
      exact absurd H (by simp)
     case rest =>
      clear HC8
      try clear c1
      try clear p1
      try clear q1
      try clear hx1
      try clear c2
      try clear c2b0
      try clear p2
      try clear c3
      try clear c3b0
      try clear c5
      try clear p6
      try clear c9
      try clear c9b0
      try clear p10
      try clear q10
      try clear hx10
      try clear c11
      try clear c11b0
      try clear c12
      try clear c12b0
      try clear c13
      try clear c13b0
      try clear c14
      try clear c14b0
      try clear hx101_0
      try clear hx103_0
      try clear hx104_0
      try clear p1
      try clear p101
      try clear p103
      try clear p104
      try clear p2
      try clear p6
      try clear q1
      try clear q101
      try clear q103
      try clear q104
      obtain ⟨kq, x34_7, rfl, HA, HJ7, HO_3, HB⟩ := hcut
      cases kq with
      | zero => exact absurd HA.out (by simp [lambrequinref09_Sorted.j2])
      | succ kj7 =>
       have H := HA.out
       clear HA
       simp only [lambrequinref09_Sorted.j2] at H
       by_cases c15 : x34_7 = true
       ·subst c15
        have H1 : (lambrequinref09_Sorted.l1 kj7 l0 x3_1 x4_1 (wrap64 (x5_2 - 1))) = some r := by rw [if_pos rfl] at H; exact H
        clear H
        have H := H1
        clear H1
        have H' := am H
        clear H
        go_wp2
        repeat (go_quiet (fail); try go_wp2)
        go_roundg kj7
        case measure => have := HK1.out; have := HK2.out; have := HJ7.out; omega
        case rel => exact ⟨(wrap64 (x5_2 - 1)), rs_, H', ⟨by have := HK1.out; have := HK2.out; have := HJ7.out; omega⟩, ⟨pR HO_3.out⟩, ⟨pL HB.out⟩⟩
       replace c15 := Bool.eq_false_iff.mpr c15
       subst c15
       have H1 : ((some (([] : List ByteArray) : List ByteArray)).bind fun y105 => (if 0 ≤ x5_2 then (if x5_2 ≤ (x3_1.length : Int) then ((some (x3_1.take (x5_2 : Int).toNat : List ByteArray)).bind fun y108 => (if y105.length + y108.length < 8796093022208 then ((some (y105 ++ y108 : List ByteArray)).bind fun y112 => (if 0 ≤ x4_1 then (if x4_1 < (l0.length : Int) then (if y112.length < 8796093022208 then ((some (y112 ++ [rdOf ByteArray.empty l0 x4_1] : List ByteArray)).bind fun y116 => ((some (x3_1.drop (x5_2 : Int).toNat : List ByteArray)).bind fun y119 => (if y116.length + y119.length < 8796093022208 then (lambrequinref09_Sorted.l0 kj7 l0 (y116 ++ y119) (wrap64 (x4_1 + 1))) else (none)))) else (none)) else (none)) else (none))) else (none))) else (none)) else (none))) = some r := by rw [if_neg (show ¬ (false = true) by decide)] at H; exact H
       clear H
       have H := H1
       clear H1
       obtain ⟨y105, hy105⟩ : ∃ y_ : List ByteArray, y_ = (([] : List ByteArray)) := ⟨_, rfl⟩
       replace H : (if 0 ≤ x5_2 then (if x5_2 ≤ (x3_1.length : Int) then ((some (x3_1.take (x5_2 : Int).toNat : List ByteArray)).bind fun y108 => (if y105.length + y108.length < 8796093022208 then ((some (y105 ++ y108 : List ByteArray)).bind fun y112 => (if 0 ≤ x4_1 then (if x4_1 < (l0.length : Int) then (if y112.length < 8796093022208 then ((some (y112 ++ [rdOf ByteArray.empty l0 x4_1] : List ByteArray)).bind fun y116 => ((some (x3_1.drop (x5_2 : Int).toNat : List ByteArray)).bind fun y119 => (if y116.length + y119.length < 8796093022208 then (lambrequinref09_Sorted.l0 kj7 l0 (y116 ++ y119) (wrap64 (x4_1 + 1))) else (none)))) else (none)) else (none)) else (none))) else (none))) else (none)) else (none)) = some r := by first | (rw [hy105]; with_reducible exact H) | (have H2_ := (Option.bind_some _ _).symm.trans H; rw [hy105]; with_reducible exact H2_) | (have H2_ := (Option.bind_some _ _).symm.trans H; with_reducible exact H2_) | with_reducible exact H | (rw [hy105]; exact H) | exact H
       have Ny105 := am hy105
       clear hy105
       by_cases c16 : 0 ≤ x5_2
       rotate_left
       ·rw [if_neg c16] at H
        exact absurd H (by simp)
       rw [if_pos c16] at H
       have c16b0 := eq_true c16
       have c16b1 : decide (0 ≤ x5_2) = true := decide_eq_true c16
       clear c16
       by_cases c17 : x5_2 ≤ (x3_1.length : Int)
       rotate_left
       ·rw [if_neg c17] at H
        exact absurd H (by simp)
       rw [if_pos c17] at H
       have c17b0 := eq_true c17
       have c17b1 : decide (x5_2 ≤ (x3_1.length : Int)) = true := decide_eq_true c17
       clear c17
       obtain ⟨y108, hy108⟩ : ∃ y_ : List ByteArray, y_ = (x3_1.take (x5_2 : Int).toNat) := ⟨_, rfl⟩
       replace H : (if y105.length + y108.length < 8796093022208 then ((some (y105 ++ y108 : List ByteArray)).bind fun y112 => (if 0 ≤ x4_1 then (if x4_1 < (l0.length : Int) then (if y112.length < 8796093022208 then ((some (y112 ++ [rdOf ByteArray.empty l0 x4_1] : List ByteArray)).bind fun y116 => ((some (x3_1.drop (x5_2 : Int).toNat : List ByteArray)).bind fun y119 => (if y116.length + y119.length < 8796093022208 then (lambrequinref09_Sorted.l0 kj7 l0 (y116 ++ y119) (wrap64 (x4_1 + 1))) else (none)))) else (none)) else (none)) else (none))) else (none)) = some r := by first | (rw [hy108]; with_reducible exact H) | (have H2_ := (Option.bind_some _ _).symm.trans H; rw [hy108]; with_reducible exact H2_) | (have H2_ := (Option.bind_some _ _).symm.trans H; with_reducible exact H2_) | with_reducible exact H | (rw [hy108]; exact H) | exact H
       have Ny108 := am hy108
       clear hy108
       by_cases c18 : y105.length + y108.length < 8796093022208
       rotate_left
       ·rw [if_neg c18] at H
        exact absurd H (by simp)
       rw [if_pos c18] at H
       have LMc18 := am c18
       clear c18
       obtain ⟨y112, hy112⟩ : ∃ y_ : List ByteArray, y_ = (y105 ++ y108) := ⟨_, rfl⟩
       replace H : (if 0 ≤ x4_1 then (if x4_1 < (l0.length : Int) then (if y112.length < 8796093022208 then ((some (y112 ++ [rdOf ByteArray.empty l0 x4_1] : List ByteArray)).bind fun y116 => ((some (x3_1.drop (x5_2 : Int).toNat : List ByteArray)).bind fun y119 => (if y116.length + y119.length < 8796093022208 then (lambrequinref09_Sorted.l0 kj7 l0 (y116 ++ y119) (wrap64 (x4_1 + 1))) else (none)))) else (none)) else (none)) else (none)) = some r := by first | (rw [hy112]; with_reducible exact H) | (have H2_ := (Option.bind_some _ _).symm.trans H; rw [hy112]; with_reducible exact H2_) | (have H2_ := (Option.bind_some _ _).symm.trans H; with_reducible exact H2_) | with_reducible exact H | (rw [hy112]; exact H) | exact H
       have Ny112 := am hy112
       clear hy112
       by_cases c19 : 0 ≤ x4_1
       rotate_left
       ·rw [if_neg c19] at H
        exact absurd H (by simp)
       rw [if_pos c19] at H
       have c19b0 : decide (0 ≤ x4_1) = true := decide_eq_true c19
       clear c19
       by_cases c20 : x4_1 < (l0.length : Int)
       rotate_left
       ·rw [if_neg c20] at H
        exact absurd H (by simp)
       rw [if_pos c20] at H
       have c20b0 : decide (x4_1 < (l0.length : Int)) = true := decide_eq_true c20
       clear c20
       by_cases c21 : y112.length < 8796093022208
       ·rw [if_pos c21] at H
        have LMc21 := am c21
        clear c21
        obtain ⟨y116, hy116⟩ : ∃ y_ : List ByteArray, y_ = (y112 ++ [rdOf ByteArray.empty l0 x4_1]) := ⟨_, rfl⟩
        replace H : ((some (x3_1.drop (x5_2 : Int).toNat : List ByteArray)).bind fun y119 => (if y116.length + y119.length < 8796093022208 then (lambrequinref09_Sorted.l0 kj7 l0 (y116 ++ y119) (wrap64 (x4_1 + 1))) else (none))) = some r := by first | (rw [hy116]; with_reducible exact H) | (have H2_ := (Option.bind_some _ _).symm.trans H; rw [hy116]; with_reducible exact H2_) | (have H2_ := (Option.bind_some _ _).symm.trans H; with_reducible exact H2_) | with_reducible exact H | (rw [hy116]; exact H) | exact H
        have Ny116 := am hy116
        clear hy116
        have c22b0 := eq_true (dt_ : 0 ≤ x5_2)
        have c23b0 := eq_true (dt_ : x5_2 ≤ (x3_1.length : Int))
        obtain ⟨y119, hy119⟩ : ∃ y_ : List ByteArray, y_ = (x3_1.drop (x5_2 : Int).toNat) := ⟨_, rfl⟩
        replace H : (if y116.length + y119.length < 8796093022208 then (lambrequinref09_Sorted.l0 kj7 l0 (y116 ++ y119) (wrap64 (x4_1 + 1))) else (none)) = some r := by first | (rw [hy119]; with_reducible exact H) | (have H2_ := (Option.bind_some _ _).symm.trans H; rw [hy119]; with_reducible exact H2_) | (have H2_ := (Option.bind_some _ _).symm.trans H; with_reducible exact H2_) | with_reducible exact H | (rw [hy119]; exact H) | exact H
        have Ny119 := am hy119
        clear hy119
        by_cases c24 : y116.length + y119.length < 8796093022208
        ·rw [if_pos c24] at H
         have LMc24 := am c24
         clear c24
         obtain ⟨y123, hy123⟩ : ∃ y_ : List ByteArray, y_ = (y116 ++ y119) := ⟨_, rfl⟩
         replace H : (lambrequinref09_Sorted.l0 kj7 l0 y123 (wrap64 (x4_1 + 1))) = some r := by first | (rw [hy123]; with_reducible exact H) | (have H2_ := (Option.bind_some _ _).symm.trans H; rw [hy123]; with_reducible exact H2_) | (have H2_ := (Option.bind_some _ _).symm.trans H; with_reducible exact H2_) | with_reducible exact H | (rw [hy123]; exact H) | exact H
         have Ny123 := am hy123
         clear hy123
         have H' := am H
         clear H
         go_wp2_with (first | ((with_reducible refine gate_dst (N := 37) rfl ?_); refine Kd.R_lit Kd.string _ 9 ?hg (N := 37) ?hd (xs := ([] : List ByteArray)) (inner := []) (ok := fun _ => True) (okp := fun _ => True) ?hr ?hp (fun _ hk => hk) trivial (Below.refl _ _) (Nat.le_refl _) (by simp) ?_; (case hd => rfl); (case hg => rfl); (case hr => first | (go_simp; done) | (go_simp; rfl)); (case hp => exact (Reps.none _ _)); intro v106 w25 ho26 hb hg_ hnew_; clear hg_ hnew_; (first | rw [← Ny105.out] at ho26 | (simp only [Int.reduceToNat] at ho26; rw [← Ny105.out] at ho26)); have HO107 := am (Kd.R_lower (Kd.R_new' ho26 (Kd.R_lt (pR HO_3.out))) (below_size (pL HB.out))); replace HO_3 := am (Kd.R_elder' (pR HO_3.out) (Kd.R_base ho26) hb); replace HB := am (bs_ HB.out hb); clear hb ho26; have q27 : (x5_2 : Int) ≤ ((x3_1.length : Int) : Int) := dt_; obtain ⟨i027, hi027, _, hsz27, _⟩ := info_parts info9; have hroom27 : x3_1.length ≤ co7 := (Kd.R_reads' HO_3.out).2.1; have hC27 : Kd.C Kd.string _ Ao7 x3_1.length x3_1 := (Kd.R_reads' HO_3.out).2.2; have hcut27 := cut_to (P := Tryz.prog) 46 9 .i64 Tryz.underlying46 hi027 Ao7 x3_1.length co7 x5_2 (dt_) q27 hroom27; have hr27 := Kd.C_take (m := (x5_2 : Int).toNat) hC27 (by omega); have hy27 : y108.length = (x5_2 : Int).toNat := (by rw [Ny108.out, List.length_take]; omega); rw [← Ny108.out] at hr27; rw [← hy27] at hcut27; have HR111 := am hr27; have HC111 := am (show y108.length ≤ co7 from by omega); clear hr27 hC27 hroom27 hi027 hsz27; have KY27 := am hy27; clear hy27; have KL27 := am (show (x5_2 : Int).toNat ≤ x3_1.length from by omega); replace q27 := eq_true q27) | ((with_reducible refine gate_builtin (b := .append) (xs := #[.tmp 37, .tmp 40]) rfl ?_); at_builtin; refine Kd.R_append_rows Kd.string (w0 := w) w.heap.size rfl (.tmp 37) (.tmp 40) 46 9 (.string ⟨#[]⟩) 16 rfl Tryz.underlying46 info9 rfl (by decide) (by omega) v106 y105 y108 _ _ _ (fun k_ => some k_ ≠ (.slice Ao7 x3_1.length co7 : Value).ownBlock) (fun _ => False) rfl rfl ?aO ?aR (fun _ _ h => h) (fun _ h => h.elim) ?aF ?aB ?aS ?aL ?_; (case aR => repeat (first | exact (by repeat (first | (with_reducible exact HR111.out) | (with_reducible refine Kd.C_alloc ?_ _) | (with_reducible refine Kd.C_drewN ?_ _) | (with_reducible refine Kd.C_drew ?_) | exact HR111.out)) | (with_reducible refine Kd.C_alloc ?_ _) | (with_reducible refine Kd.C_drewN ?_ _) | (with_reducible refine Kd.C_drew ?_))); (case aB => exact (pL HB.out)); (case aF => exact (fun k_ hk => Kd.fresh' (Kd.R_lt (pR HO_3.out)) k_ hk)); (case aO => exact (by (with_reducible repeat (first | apply Ra | apply Rn | apply Rd)); exact Kd.R_mono HO107.out (fun _ hk => hk.2))); (case aS => exact (below_size (pL HB.out))); (case aL => have := LMc18.out; omega); intro v113 w28 ho hb hg hat; rw [← Ny112.out] at ho; replace HB := am (hb); replace HR111 := am ((show Kd.C Kd.string w28 Ao7 y108.length y108 from by rw [Ny108.out]; exact Kd.C_take (m := (x5_2 : Int).toNat) ((Kd.R_reads' (Kd.R_after (ok := (fun _ => True)) (pR HO_3.out) hg hat)).2.2) KL27.out)); replace HO_3 := am (Kd.R_after (ok := (fun _ => True)) (pR HO_3.out) hg hat); have HO114 := am (ho); clear HO107; clear ho hb hg hat; have p115 : 0 ≤ (x4_1 : Int) := dt_; have q115 : x4_1 < (l0.length : Int) := dt_; obtain ⟨ad115, e115, hx115_0⟩ := Kd.at_string HR0.out x4_1 p115 q115; obtain rfl : ad101 = ad115 := (by injection e115); replace hx115_0 := up_ HB.out hx115_0; replace p115 := eq_true p115; replace q115 := eq_true q115) | ((with_reducible refine gate_builtin (b := .append) (xs := #[.tmp 42, .tmp 47]) rfl ?_); at_builtin; refine Kd.R_append Kd.string (w0 := w) w.heap.size rfl (.tmp 42) (.tmp 47) 46 9 (.string ⟨#[]⟩) 16 rfl Tryz.underlying46 info9 rfl (by decide) (by omega) v113 y112 (rdOf ByteArray.empty l0 x4_1) [.string (rdOf ByteArray.empty l0 x4_1)] (fun k_ => some k_ ≠ (.slice Ao7 x3_1.length co7 : Value).ownBlock) (fun _ => False) rfl rfl ?aP (fun _ hk => hk.elim) ?aF ?aO ?aB ?aS ?aL ?_; (case aP => exact rfl); (case aB => exact (pL HB.out)); (case aF => exact (fun k_ hk => Kd.fresh' (Kd.R_lt (pR HO_3.out)) k_ hk)); (case aO => exact (pR HO114.out)); (case aS => exact (below_size (pL HB.out))); (case aL => have := LMc21.out; omega); intro v117 w29 ho hb hg hat; rw [← Ny116.out] at ho; replace HB := am (hb); replace HR111 := am ((show Kd.C Kd.string w29 Ao7 y108.length y108 from by rw [Ny108.out]; exact Kd.C_take (m := (x5_2 : Int).toNat) ((Kd.R_reads' (Kd.R_after (ok := (fun _ => True)) (pR HO_3.out) hg hat)).2.2) KL27.out)); replace HO_3 := am (Kd.R_after (ok := (fun _ => True)) (pR HO_3.out) hg hat); have HO118 := am (ho); clear HO114; clear ho hb hg hat; have q30 : (x5_2 : Int) ≤ ((x3_1.length : Int) : Int) := dt_; obtain ⟨i030, hi030, _, hsz30, _⟩ := info_parts info9; have hroom30 : x3_1.length ≤ co7 := (Kd.R_reads' HO_3.out).2.1; have hC30 : Kd.C Kd.string _ Ao7 x3_1.length x3_1 := (Kd.R_reads' HO_3.out).2.2; have q030 : (0 : Int) ≤ (x5_2 : Int) := dt_; have hcut30 := cut_from (P := Tryz.prog) 46 9 .i64 Tryz.underlying46 hi030 1 hsz30 Ao7 x3_1.length co7 x5_2 q030 q30; have hr30 := Kd.C_drop (m := (x5_2 : Int).toNat) (c := co7) hC30 (by omega) hroom30; obtain ⟨A30, hA30⟩ : ∃ A1, A1 = (if co7 = (x5_2 : Int).toNat then Ao7 else (Ao7 : Option Addr).map (·.add ((x5_2 : Int).toNat * 1))) := ⟨_, rfl⟩; obtain ⟨c30, hc30⟩ : ∃ c1, c1 = co7 - (x5_2 : Int).toNat := ⟨_, rfl⟩; have hy30 : y119.length = x3_1.length - (x5_2 : Int).toNat := (by rw [Ny119.out, List.length_drop] <;> omega); rw [show (x3_1).drop (x5_2 : Int).toNat = y119 from Ny119.out.symm] at hr30; replace hr30 : Kd.C Kd.string _ A30 y119.length y119 := (by rw [hA30]; exact hr30); rw [← hy30, ← hA30, ← hc30] at hcut30; have HR122 := am hr30; have HC122 := am (show y119.length ≤ c30 from by rw [hy30, hc30]; exact Nat.sub_le_sub_right hroom30 _); clear hr30 hC30 hroom30 hi030 hsz30 hc30; have KY30 := am hy30; have KA30 := am hA30; clear hy30 hA30; have KL30 := am (show (x5_2 : Int).toNat ≤ x3_1.length from by omega); replace q30 := eq_true q30) | ((with_reducible refine gate_builtin (b := .append) (xs := #[.tmp 49, .tmp 52]) rfl ?_); at_builtin; refine Kd.R_append_rows Kd.string (w0 := w) w.heap.size rfl (.tmp 49) (.tmp 52) 46 9 (.string ⟨#[]⟩) 16 rfl Tryz.underlying46 info9 rfl (by decide) (by omega) v117 y116 y119 _ _ _ (fun k_ => some k_ ≠ (.slice Ao7 x3_1.length co7 : Value).ownBlock) (fun _ => False) rfl rfl ?aO ?aR (fun _ _ h => h) (fun _ h => h.elim) ?aF ?aB ?aS ?aL ?_; (case aR => repeat (first | exact (by repeat (first | (with_reducible exact HR122.out) | (with_reducible refine Kd.C_alloc ?_ _) | (with_reducible refine Kd.C_drewN ?_ _) | (with_reducible refine Kd.C_drew ?_) | exact HR122.out)) | (with_reducible refine Kd.C_alloc ?_ _) | (with_reducible refine Kd.C_drewN ?_ _) | (with_reducible refine Kd.C_drew ?_))); (case aB => exact (pL HB.out)); (case aF => exact (fun k_ hk => Kd.fresh' (Kd.R_lt (pR HO_3.out)) k_ hk)); (case aO => exact (pR HO118.out)); (case aS => exact (below_size (pL HB.out))); (case aL => have := LMc24.out; omega); intro v124 w31 ho hb hg hat; rw [← Ny123.out] at ho; replace HB := am (hb); replace HR111 := am ((show Kd.C Kd.string w31 Ao7 y108.length y108 from by rw [Ny108.out]; exact Kd.C_take (m := (x5_2 : Int).toNat) ((Kd.R_reads' (Kd.R_after (ok := (fun _ => True)) (pR HO_3.out) hg hat)).2.2) KL27.out)); replace HR122 := am ((show Kd.C Kd.string w31 A30 y119.length y119 from by rw [Ny119.out, KA30.out]; exact Kd.C_drop (m := (x5_2 : Int).toNat) (c := co7) ((Kd.R_reads' (Kd.R_after (ok := (fun _ => True)) (pR HO_3.out) hg hat)).2.2) KL30.out ((Kd.R_reads' (Kd.R_after (ok := (fun _ => True)) (pR HO_3.out) hg hat)).2.1))); replace HO_3 := am (Kd.R_after (ok := (fun _ => True)) (pR HO_3.out) hg hat); have HO125 := am (ho); clear HO118; clear ho hb hg hat))
         repeat (go_quiet (first | ((with_reducible refine gate_dst (N := 37) rfl ?_); refine Kd.R_lit Kd.string _ 9 ?hg (N := 37) ?hd (xs := ([] : List ByteArray)) (inner := []) (ok := fun _ => True) (okp := fun _ => True) ?hr ?hp (fun _ hk => hk) trivial (Below.refl _ _) (Nat.le_refl _) (by simp) ?_; (case hd => rfl); (case hg => rfl); (case hr => first | (go_simp; done) | (go_simp; rfl)); (case hp => exact (Reps.none _ _)); intro v106 w25 ho26 hb hg_ hnew_; clear hg_ hnew_; (first | rw [← Ny105.out] at ho26 | (simp only [Int.reduceToNat] at ho26; rw [← Ny105.out] at ho26)); have HO107 := am (Kd.R_lower (Kd.R_new' ho26 (Kd.R_lt (pR HO_3.out))) (below_size (pL HB.out))); replace HO_3 := am (Kd.R_elder' (pR HO_3.out) (Kd.R_base ho26) hb); replace HB := am (bs_ HB.out hb); clear hb ho26; have q27 : (x5_2 : Int) ≤ ((x3_1.length : Int) : Int) := dt_; obtain ⟨i027, hi027, _, hsz27, _⟩ := info_parts info9; have hroom27 : x3_1.length ≤ co7 := (Kd.R_reads' HO_3.out).2.1; have hC27 : Kd.C Kd.string _ Ao7 x3_1.length x3_1 := (Kd.R_reads' HO_3.out).2.2; have hcut27 := cut_to (P := Tryz.prog) 46 9 .i64 Tryz.underlying46 hi027 Ao7 x3_1.length co7 x5_2 (dt_) q27 hroom27; have hr27 := Kd.C_take (m := (x5_2 : Int).toNat) hC27 (by omega); have hy27 : y108.length = (x5_2 : Int).toNat := (by rw [Ny108.out, List.length_take]; omega); rw [← Ny108.out] at hr27; rw [← hy27] at hcut27; have HR111 := am hr27; have HC111 := am (show y108.length ≤ co7 from by omega); clear hr27 hC27 hroom27 hi027 hsz27; have KY27 := am hy27; clear hy27; have KL27 := am (show (x5_2 : Int).toNat ≤ x3_1.length from by omega); replace q27 := eq_true q27) | ((with_reducible refine gate_builtin (b := .append) (xs := #[.tmp 37, .tmp 40]) rfl ?_); at_builtin; refine Kd.R_append_rows Kd.string (w0 := w) w.heap.size rfl (.tmp 37) (.tmp 40) 46 9 (.string ⟨#[]⟩) 16 rfl Tryz.underlying46 info9 rfl (by decide) (by omega) v106 y105 y108 _ _ _ (fun k_ => some k_ ≠ (.slice Ao7 x3_1.length co7 : Value).ownBlock) (fun _ => False) rfl rfl ?aO ?aR (fun _ _ h => h) (fun _ h => h.elim) ?aF ?aB ?aS ?aL ?_; (case aR => repeat (first | exact (by repeat (first | (with_reducible exact HR111.out) | (with_reducible refine Kd.C_alloc ?_ _) | (with_reducible refine Kd.C_drewN ?_ _) | (with_reducible refine Kd.C_drew ?_) | exact HR111.out)) | (with_reducible refine Kd.C_alloc ?_ _) | (with_reducible refine Kd.C_drewN ?_ _) | (with_reducible refine Kd.C_drew ?_))); (case aB => exact (pL HB.out)); (case aF => exact (fun k_ hk => Kd.fresh' (Kd.R_lt (pR HO_3.out)) k_ hk)); (case aO => exact (by (with_reducible repeat (first | apply Ra | apply Rn | apply Rd)); exact Kd.R_mono HO107.out (fun _ hk => hk.2))); (case aS => exact (below_size (pL HB.out))); (case aL => have := LMc18.out; omega); intro v113 w28 ho hb hg hat; rw [← Ny112.out] at ho; replace HB := am (hb); replace HR111 := am ((show Kd.C Kd.string w28 Ao7 y108.length y108 from by rw [Ny108.out]; exact Kd.C_take (m := (x5_2 : Int).toNat) ((Kd.R_reads' (Kd.R_after (ok := (fun _ => True)) (pR HO_3.out) hg hat)).2.2) KL27.out)); replace HO_3 := am (Kd.R_after (ok := (fun _ => True)) (pR HO_3.out) hg hat); have HO114 := am (ho); clear HO107; clear ho hb hg hat; have p115 : 0 ≤ (x4_1 : Int) := dt_; have q115 : x4_1 < (l0.length : Int) := dt_; obtain ⟨ad115, e115, hx115_0⟩ := Kd.at_string HR0.out x4_1 p115 q115; obtain rfl : ad101 = ad115 := (by injection e115); replace hx115_0 := up_ HB.out hx115_0; replace p115 := eq_true p115; replace q115 := eq_true q115) | ((with_reducible refine gate_builtin (b := .append) (xs := #[.tmp 42, .tmp 47]) rfl ?_); at_builtin; refine Kd.R_append Kd.string (w0 := w) w.heap.size rfl (.tmp 42) (.tmp 47) 46 9 (.string ⟨#[]⟩) 16 rfl Tryz.underlying46 info9 rfl (by decide) (by omega) v113 y112 (rdOf ByteArray.empty l0 x4_1) [.string (rdOf ByteArray.empty l0 x4_1)] (fun k_ => some k_ ≠ (.slice Ao7 x3_1.length co7 : Value).ownBlock) (fun _ => False) rfl rfl ?aP (fun _ hk => hk.elim) ?aF ?aO ?aB ?aS ?aL ?_; (case aP => exact rfl); (case aB => exact (pL HB.out)); (case aF => exact (fun k_ hk => Kd.fresh' (Kd.R_lt (pR HO_3.out)) k_ hk)); (case aO => exact (pR HO114.out)); (case aS => exact (below_size (pL HB.out))); (case aL => have := LMc21.out; omega); intro v117 w29 ho hb hg hat; rw [← Ny116.out] at ho; replace HB := am (hb); replace HR111 := am ((show Kd.C Kd.string w29 Ao7 y108.length y108 from by rw [Ny108.out]; exact Kd.C_take (m := (x5_2 : Int).toNat) ((Kd.R_reads' (Kd.R_after (ok := (fun _ => True)) (pR HO_3.out) hg hat)).2.2) KL27.out)); replace HO_3 := am (Kd.R_after (ok := (fun _ => True)) (pR HO_3.out) hg hat); have HO118 := am (ho); clear HO114; clear ho hb hg hat; have q30 : (x5_2 : Int) ≤ ((x3_1.length : Int) : Int) := dt_; obtain ⟨i030, hi030, _, hsz30, _⟩ := info_parts info9; have hroom30 : x3_1.length ≤ co7 := (Kd.R_reads' HO_3.out).2.1; have hC30 : Kd.C Kd.string _ Ao7 x3_1.length x3_1 := (Kd.R_reads' HO_3.out).2.2; have q030 : (0 : Int) ≤ (x5_2 : Int) := dt_; have hcut30 := cut_from (P := Tryz.prog) 46 9 .i64 Tryz.underlying46 hi030 1 hsz30 Ao7 x3_1.length co7 x5_2 q030 q30; have hr30 := Kd.C_drop (m := (x5_2 : Int).toNat) (c := co7) hC30 (by omega) hroom30; obtain ⟨A30, hA30⟩ : ∃ A1, A1 = (if co7 = (x5_2 : Int).toNat then Ao7 else (Ao7 : Option Addr).map (·.add ((x5_2 : Int).toNat * 1))) := ⟨_, rfl⟩; obtain ⟨c30, hc30⟩ : ∃ c1, c1 = co7 - (x5_2 : Int).toNat := ⟨_, rfl⟩; have hy30 : y119.length = x3_1.length - (x5_2 : Int).toNat := (by rw [Ny119.out, List.length_drop] <;> omega); rw [show (x3_1).drop (x5_2 : Int).toNat = y119 from Ny119.out.symm] at hr30; replace hr30 : Kd.C Kd.string _ A30 y119.length y119 := (by rw [hA30]; exact hr30); rw [← hy30, ← hA30, ← hc30] at hcut30; have HR122 := am hr30; have HC122 := am (show y119.length ≤ c30 from by rw [hy30, hc30]; exact Nat.sub_le_sub_right hroom30 _); clear hr30 hC30 hroom30 hi030 hsz30 hc30; have KY30 := am hy30; have KA30 := am hA30; clear hy30 hA30; have KL30 := am (show (x5_2 : Int).toNat ≤ x3_1.length from by omega); replace q30 := eq_true q30) | ((with_reducible refine gate_builtin (b := .append) (xs := #[.tmp 49, .tmp 52]) rfl ?_); at_builtin; refine Kd.R_append_rows Kd.string (w0 := w) w.heap.size rfl (.tmp 49) (.tmp 52) 46 9 (.string ⟨#[]⟩) 16 rfl Tryz.underlying46 info9 rfl (by decide) (by omega) v117 y116 y119 _ _ _ (fun k_ => some k_ ≠ (.slice Ao7 x3_1.length co7 : Value).ownBlock) (fun _ => False) rfl rfl ?aO ?aR (fun _ _ h => h) (fun _ h => h.elim) ?aF ?aB ?aS ?aL ?_; (case aR => repeat (first | exact (by repeat (first | (with_reducible exact HR122.out) | (with_reducible refine Kd.C_alloc ?_ _) | (with_reducible refine Kd.C_drewN ?_ _) | (with_reducible refine Kd.C_drew ?_) | exact HR122.out)) | (with_reducible refine Kd.C_alloc ?_ _) | (with_reducible refine Kd.C_drewN ?_ _) | (with_reducible refine Kd.C_drew ?_))); (case aB => exact (pL HB.out)); (case aF => exact (fun k_ hk => Kd.fresh' (Kd.R_lt (pR HO_3.out)) k_ hk)); (case aO => exact (pR HO118.out)); (case aS => exact (below_size (pL HB.out))); (case aL => have := LMc24.out; omega); intro v124 w31 ho hb hg hat; rw [← Ny123.out] at ho; replace HB := am (hb); replace HR111 := am ((show Kd.C Kd.string w31 Ao7 y108.length y108 from by rw [Ny108.out]; exact Kd.C_take (m := (x5_2 : Int).toNat) ((Kd.R_reads' (Kd.R_after (ok := (fun _ => True)) (pR HO_3.out) hg hat)).2.2) KL27.out)); replace HR122 := am ((show Kd.C Kd.string w31 A30 y119.length y119 from by rw [Ny119.out, KA30.out]; exact Kd.C_drop (m := (x5_2 : Int).toNat) (c := co7) ((Kd.R_reads' (Kd.R_after (ok := (fun _ => True)) (pR HO_3.out) hg hat)).2.2) KL30.out ((Kd.R_reads' (Kd.R_after (ok := (fun _ => True)) (pR HO_3.out) hg hat)).2.1))); replace HO_3 := am (Kd.R_after (ok := (fun _ => True)) (pR HO_3.out) hg hat); have HO125 := am (ho); clear HO118; clear ho hb hg hat)); try go_wp2_with (first | ((with_reducible refine gate_dst (N := 37) rfl ?_); refine Kd.R_lit Kd.string _ 9 ?hg (N := 37) ?hd (xs := ([] : List ByteArray)) (inner := []) (ok := fun _ => True) (okp := fun _ => True) ?hr ?hp (fun _ hk => hk) trivial (Below.refl _ _) (Nat.le_refl _) (by simp) ?_; (case hd => rfl); (case hg => rfl); (case hr => first | (go_simp; done) | (go_simp; rfl)); (case hp => exact (Reps.none _ _)); intro v106 w25 ho26 hb hg_ hnew_; clear hg_ hnew_; (first | rw [← Ny105.out] at ho26 | (simp only [Int.reduceToNat] at ho26; rw [← Ny105.out] at ho26)); have HO107 := am (Kd.R_lower (Kd.R_new' ho26 (Kd.R_lt (pR HO_3.out))) (below_size (pL HB.out))); replace HO_3 := am (Kd.R_elder' (pR HO_3.out) (Kd.R_base ho26) hb); replace HB := am (bs_ HB.out hb); clear hb ho26; have q27 : (x5_2 : Int) ≤ ((x3_1.length : Int) : Int) := dt_; obtain ⟨i027, hi027, _, hsz27, _⟩ := info_parts info9; have hroom27 : x3_1.length ≤ co7 := (Kd.R_reads' HO_3.out).2.1; have hC27 : Kd.C Kd.string _ Ao7 x3_1.length x3_1 := (Kd.R_reads' HO_3.out).2.2; have hcut27 := cut_to (P := Tryz.prog) 46 9 .i64 Tryz.underlying46 hi027 Ao7 x3_1.length co7 x5_2 (dt_) q27 hroom27; have hr27 := Kd.C_take (m := (x5_2 : Int).toNat) hC27 (by omega); have hy27 : y108.length = (x5_2 : Int).toNat := (by rw [Ny108.out, List.length_take]; omega); rw [← Ny108.out] at hr27; rw [← hy27] at hcut27; have HR111 := am hr27; have HC111 := am (show y108.length ≤ co7 from by omega); clear hr27 hC27 hroom27 hi027 hsz27; have KY27 := am hy27; clear hy27; have KL27 := am (show (x5_2 : Int).toNat ≤ x3_1.length from by omega); replace q27 := eq_true q27) | ((with_reducible refine gate_builtin (b := .append) (xs := #[.tmp 37, .tmp 40]) rfl ?_); at_builtin; refine Kd.R_append_rows Kd.string (w0 := w) w.heap.size rfl (.tmp 37) (.tmp 40) 46 9 (.string ⟨#[]⟩) 16 rfl Tryz.underlying46 info9 rfl (by decide) (by omega) v106 y105 y108 _ _ _ (fun k_ => some k_ ≠ (.slice Ao7 x3_1.length co7 : Value).ownBlock) (fun _ => False) rfl rfl ?aO ?aR (fun _ _ h => h) (fun _ h => h.elim) ?aF ?aB ?aS ?aL ?_; (case aR => repeat (first | exact (by repeat (first | (with_reducible exact HR111.out) | (with_reducible refine Kd.C_alloc ?_ _) | (with_reducible refine Kd.C_drewN ?_ _) | (with_reducible refine Kd.C_drew ?_) | exact HR111.out)) | (with_reducible refine Kd.C_alloc ?_ _) | (with_reducible refine Kd.C_drewN ?_ _) | (with_reducible refine Kd.C_drew ?_))); (case aB => exact (pL HB.out)); (case aF => exact (fun k_ hk => Kd.fresh' (Kd.R_lt (pR HO_3.out)) k_ hk)); (case aO => exact (by (with_reducible repeat (first | apply Ra | apply Rn | apply Rd)); exact Kd.R_mono HO107.out (fun _ hk => hk.2))); (case aS => exact (below_size (pL HB.out))); (case aL => have := LMc18.out; omega); intro v113 w28 ho hb hg hat; rw [← Ny112.out] at ho; replace HB := am (hb); replace HR111 := am ((show Kd.C Kd.string w28 Ao7 y108.length y108 from by rw [Ny108.out]; exact Kd.C_take (m := (x5_2 : Int).toNat) ((Kd.R_reads' (Kd.R_after (ok := (fun _ => True)) (pR HO_3.out) hg hat)).2.2) KL27.out)); replace HO_3 := am (Kd.R_after (ok := (fun _ => True)) (pR HO_3.out) hg hat); have HO114 := am (ho); clear HO107; clear ho hb hg hat; have p115 : 0 ≤ (x4_1 : Int) := dt_; have q115 : x4_1 < (l0.length : Int) := dt_; obtain ⟨ad115, e115, hx115_0⟩ := Kd.at_string HR0.out x4_1 p115 q115; obtain rfl : ad101 = ad115 := (by injection e115); replace hx115_0 := up_ HB.out hx115_0; replace p115 := eq_true p115; replace q115 := eq_true q115) | ((with_reducible refine gate_builtin (b := .append) (xs := #[.tmp 42, .tmp 47]) rfl ?_); at_builtin; refine Kd.R_append Kd.string (w0 := w) w.heap.size rfl (.tmp 42) (.tmp 47) 46 9 (.string ⟨#[]⟩) 16 rfl Tryz.underlying46 info9 rfl (by decide) (by omega) v113 y112 (rdOf ByteArray.empty l0 x4_1) [.string (rdOf ByteArray.empty l0 x4_1)] (fun k_ => some k_ ≠ (.slice Ao7 x3_1.length co7 : Value).ownBlock) (fun _ => False) rfl rfl ?aP (fun _ hk => hk.elim) ?aF ?aO ?aB ?aS ?aL ?_; (case aP => exact rfl); (case aB => exact (pL HB.out)); (case aF => exact (fun k_ hk => Kd.fresh' (Kd.R_lt (pR HO_3.out)) k_ hk)); (case aO => exact (pR HO114.out)); (case aS => exact (below_size (pL HB.out))); (case aL => have := LMc21.out; omega); intro v117 w29 ho hb hg hat; rw [← Ny116.out] at ho; replace HB := am (hb); replace HR111 := am ((show Kd.C Kd.string w29 Ao7 y108.length y108 from by rw [Ny108.out]; exact Kd.C_take (m := (x5_2 : Int).toNat) ((Kd.R_reads' (Kd.R_after (ok := (fun _ => True)) (pR HO_3.out) hg hat)).2.2) KL27.out)); replace HO_3 := am (Kd.R_after (ok := (fun _ => True)) (pR HO_3.out) hg hat); have HO118 := am (ho); clear HO114; clear ho hb hg hat; have q30 : (x5_2 : Int) ≤ ((x3_1.length : Int) : Int) := dt_; obtain ⟨i030, hi030, _, hsz30, _⟩ := info_parts info9; have hroom30 : x3_1.length ≤ co7 := (Kd.R_reads' HO_3.out).2.1; have hC30 : Kd.C Kd.string _ Ao7 x3_1.length x3_1 := (Kd.R_reads' HO_3.out).2.2; have q030 : (0 : Int) ≤ (x5_2 : Int) := dt_; have hcut30 := cut_from (P := Tryz.prog) 46 9 .i64 Tryz.underlying46 hi030 1 hsz30 Ao7 x3_1.length co7 x5_2 q030 q30; have hr30 := Kd.C_drop (m := (x5_2 : Int).toNat) (c := co7) hC30 (by omega) hroom30; obtain ⟨A30, hA30⟩ : ∃ A1, A1 = (if co7 = (x5_2 : Int).toNat then Ao7 else (Ao7 : Option Addr).map (·.add ((x5_2 : Int).toNat * 1))) := ⟨_, rfl⟩; obtain ⟨c30, hc30⟩ : ∃ c1, c1 = co7 - (x5_2 : Int).toNat := ⟨_, rfl⟩; have hy30 : y119.length = x3_1.length - (x5_2 : Int).toNat := (by rw [Ny119.out, List.length_drop] <;> omega); rw [show (x3_1).drop (x5_2 : Int).toNat = y119 from Ny119.out.symm] at hr30; replace hr30 : Kd.C Kd.string _ A30 y119.length y119 := (by rw [hA30]; exact hr30); rw [← hy30, ← hA30, ← hc30] at hcut30; have HR122 := am hr30; have HC122 := am (show y119.length ≤ c30 from by rw [hy30, hc30]; exact Nat.sub_le_sub_right hroom30 _); clear hr30 hC30 hroom30 hi030 hsz30 hc30; have KY30 := am hy30; have KA30 := am hA30; clear hy30 hA30; have KL30 := am (show (x5_2 : Int).toNat ≤ x3_1.length from by omega); replace q30 := eq_true q30) | ((with_reducible refine gate_builtin (b := .append) (xs := #[.tmp 49, .tmp 52]) rfl ?_); at_builtin; refine Kd.R_append_rows Kd.string (w0 := w) w.heap.size rfl (.tmp 49) (.tmp 52) 46 9 (.string ⟨#[]⟩) 16 rfl Tryz.underlying46 info9 rfl (by decide) (by omega) v117 y116 y119 _ _ _ (fun k_ => some k_ ≠ (.slice Ao7 x3_1.length co7 : Value).ownBlock) (fun _ => False) rfl rfl ?aO ?aR (fun _ _ h => h) (fun _ h => h.elim) ?aF ?aB ?aS ?aL ?_; (case aR => repeat (first | exact (by repeat (first | (with_reducible exact HR122.out) | (with_reducible refine Kd.C_alloc ?_ _) | (with_reducible refine Kd.C_drewN ?_ _) | (with_reducible refine Kd.C_drew ?_) | exact HR122.out)) | (with_reducible refine Kd.C_alloc ?_ _) | (with_reducible refine Kd.C_drewN ?_ _) | (with_reducible refine Kd.C_drew ?_))); (case aB => exact (pL HB.out)); (case aF => exact (fun k_ hk => Kd.fresh' (Kd.R_lt (pR HO_3.out)) k_ hk)); (case aO => exact (pR HO118.out)); (case aS => exact (below_size (pL HB.out))); (case aL => have := LMc24.out; omega); intro v124 w31 ho hb hg hat; rw [← Ny123.out] at ho; replace HB := am (hb); replace HR111 := am ((show Kd.C Kd.string w31 Ao7 y108.length y108 from by rw [Ny108.out]; exact Kd.C_take (m := (x5_2 : Int).toNat) ((Kd.R_reads' (Kd.R_after (ok := (fun _ => True)) (pR HO_3.out) hg hat)).2.2) KL27.out)); replace HR122 := am ((show Kd.C Kd.string w31 A30 y119.length y119 from by rw [Ny119.out, KA30.out]; exact Kd.C_drop (m := (x5_2 : Int).toNat) (c := co7) ((Kd.R_reads' (Kd.R_after (ok := (fun _ => True)) (pR HO_3.out) hg hat)).2.2) KL30.out ((Kd.R_reads' (Kd.R_after (ok := (fun _ => True)) (pR HO_3.out) hg hat)).2.1))); replace HO_3 := am (Kd.R_after (ok := (fun _ => True)) (pR HO_3.out) hg hat); have HO125 := am (ho); clear HO118; clear ho hb hg hat)))
         go_roundg kj7
         case measure => have := HK1.out; have := HK2.out; have := HJ7.out; omega
         case rel => exact ⟨(y123), (wrap64 (x4_1 + 1)), rs_, H', ⟨by have := HK1.out; have := HK2.out; have := HJ7.out; omega⟩, ⟨by (with_reducible repeat (first | apply Ra | apply Rn | apply Rd)); exact Kd.R_mono HO125.out (fun _ hk => trivial)⟩, ⟨pL HB.out⟩⟩
        rw [if_neg c24] at H
        exact absurd H (by simp)
       rw [if_neg c21] at H
       exact absurd H (by simp)
end Go.Proofs.YtoekfmdcplphmaaGreat.H
/- the document's own sorted list of names -/
namespace Go.Proofs.YtoekfmdcplphmaaGreat.H
open Go.RowKit Go.Proofs.YtoekfmdcplphmaaGreatW.PrintWords
theorem In_l0 (l : List ByteArray) (s : ByteArray) (hl : l.length ≤ 9223372036854775807) : ∀ (r : List ByteArray) (n : Nat), l.drop n = r → Ev (fun k => lambrequinref09_In.l0 k l s n) (mem s r)
  | [], n, h => by
    refine Ev.step (fun k => by rw [lambrequinref09_In.l0]) ?_
    exact Ev.neg (drop_end h) (Ev.some (by simp [mem]))
  | y :: r, n, h => by
    obtain ⟨h1, h2, h3, h4, h5⟩ := drop_more h hl
    refine Ev.step (fun k => by rw [lambrequinref09_In.l0]) ?_
    refine Ev.pos h1 (Ev.pos h2 ?_)
    rw [show rdOf ByteArray.empty l n = y from h3 _, h5]
    refine Ev.iff (Ev.cases (fun _ => Ev.now true) (fun _ => In_l0 l s hl r (n + 1) h4)) ?_
    simp only [lib_ba_eq, mem, List.any_cons]
    by_cases e : y = s
    · subst e; simp
    · have e' : ¬ s = y := fun h => e h.symm
      simp [e, e']
theorem In_ev (l : List ByteArray) (s : ByteArray) (hl : l.length ≤ 9223372036854775807) : Ev (fun k => lambrequinref09_In.f k l s) (mem s l) := In_l0 l s hl l 0 rfl
def SS (l : List ByteArray) : Prop := (l.map toL).Pairwise (· < ·)
theorem SS_nodup {l : List ByteArray} (h : SS l) : (l.map toL).Nodup := List.Pairwise.imp (R := (· < ·)) (fun {a b} h => by rintro rfl; exact List.lt_irrefl a h) h
theorem SS_ext {a b : List ByteArray} (ha : SS a) (hb : SS b) (h : ∀ x, x ∈ a ↔ x ∈ b) : a = b := by
  have e : a.map toL = b.map toL := by
    refine List.Perm.eq_of_pairwise (le := (· < ·)) ?_ ha hb ((List.perm_ext_iff_of_nodup (SS_nodup ha) (SS_nodup hb)).2 fun x => ?_)
    · intro a b _ _ h1 h2
      exact absurd (List.lt_trans h1 h2) (List.lt_irrefl a)
    · rw [List.mem_map, List.mem_map]
      exact ⟨fun ⟨y, hy, e⟩ => ⟨y, (h y).1 hy, e⟩, fun ⟨y, hy, e⟩ => ⟨y, (h y).2 hy, e⟩⟩
  have := congrArg (List.map ofL) e
  rw [List.map_map, List.map_map] at this
  have e2 : (ofL ∘ toL) = (id : ByteArray → ByteArray) := by funext x; simp [ofL_toL]
  simpa [e2] using this
theorem less_iff (a b : ByteArray) : Op.bytesLess a.toList b.toList = true ↔ toL a < toL b := by
  rw [Proofs.bytesLess_eq, ByteArray.toList_eq, ByteArray.toList_eq, decide_eq_true_iff]
  rfl
theorem SS_insert {x3 : List ByteArray} {y : ByteArray} {n : Nat} (hs : SS x3) (h1 : ∀ z ∈ x3.drop n, toL y < toL z) (h2 : ∀ z ∈ x3.take n, toL z < toL y) : SS (x3.take n ++ [y] ++ x3.drop n) := by
  unfold SS at hs ⊢
  rw [← List.take_append_drop n x3, List.map_append, List.pairwise_append] at hs
  simp only [List.map_append, List.map_cons, List.map_nil, List.append_assoc, List.singleton_append]
  rw [List.pairwise_append]
  refine ⟨hs.1, List.pairwise_cons.2 ⟨fun z hz => ?_, hs.2.1⟩, fun a ha b hb => ?_⟩
  · obtain ⟨q, hq, rfl⟩ := List.mem_map.1 hz; exact h1 q hq
  · rcases List.mem_cons.1 hb with rfl | hb
    · obtain ⟨q, hq, rfl⟩ := List.mem_map.1 ha; exact h2 q hq
    · exact hs.2.2 a ha b hb
theorem Sorted_l1 (l : List ByteArray) (x3 : List ByteArray) (i : Nat) (y : ByteArray) (hl : l.length ≤ 1000000) (hx : x3.length ≤ 1000000) (hy : l[i]? = some y) (hs : SS x3) (hno : ¬ y ∈ x3) (R : List ByteArray)
    (go : ∀ x', SS x' → (∀ x, x ∈ x' ↔ x = y ∨ x ∈ x3) → x'.length = x3.length + 1 → Ev (fun k => lambrequinref09_Sorted.l0 k l x' ((i + 1 : Nat) : Int)) R) : ∀ (n : Nat), n ≤ x3.length → (∀ z ∈ x3.drop n, toL y < toL z) →
    Ev (fun k => lambrequinref09_Sorted.l1 k l x3 i n) R := by
  have hil : i < l.length := (List.getElem?_eq_some_iff.1 hy).1
  have put : ∀ n : Nat, n ≤ x3.length → (∀ z ∈ x3.drop n, toL y < toL z) → (∀ z ∈ x3.take n, toL z < toL y) → Ev (fun k => lambrequinref09_Sorted.l0 k l ([] ++ x3.take n ++ [y] ++ x3.drop n) ((i + 1 : Nat) : Int)) R := by
    intro n hn h1 h2
    rw [List.nil_append]
    refine go _ (SS_insert hs h1 h2) (fun x => ?_) (by simp; omega)
    rw [List.mem_append, List.mem_append, List.mem_singleton]
    constructor
    · rintro ((h | h) | h)
      · exact .inr (List.mem_of_mem_take h)
      · exact .inl h
      · exact .inr (List.mem_of_mem_drop h)
    · rintro (h | h)
      · exact .inl (.inr h)
      · rw [← List.take_append_drop n x3, List.mem_append] at h
        rcases h with h | h
        · exact .inl (.inl h)
        · exact .inr h
  have fall : ∀ n : Nat, n ≤ x3.length → (∀ z ∈ x3.drop n, toL y < toL z) → (∀ z ∈ x3.take n, toL z < toL y) → Ev (fun k => lambrequinref09_Sorted.j2 k l x3 i n false) R := by
    intro n hn h1 h2
    have hp := put n hn h1 h2
    refine Ev.step (fun k => by rw [lambrequinref09_Sorted.j2]) ?_
    refine Ev.neg (by decide) (Ev.pure (a := []) rfl (Ev.pos (by omega) (Ev.pos (by omega) (Ev.pure (a := x3.take n) rfl (Ev.pos (by simp; omega) (Ev.pure (a := [] ++ x3.take n) rfl ?_))))))
    refine Ev.pos (by omega) (Ev.pos (by omega) (Ev.pos (by simp; omega) (Ev.pure (a := [] ++ x3.take n ++ [y]) ?_ (Ev.pure (a := x3.drop n) rfl (Ev.pos (by simp; omega) ?_)))))
    · rw [show rdOf ByteArray.empty l i = y from getD_at hy _]
    · rw [wrap_up (by omega)]
      exact hp
  intro n
  induction n with
  | zero =>
    intro hn h1
    refine Ev.step (fun k => by rw [lambrequinref09_Sorted.l1]) ?_
    exact Ev.neg (by omega) (fall 0 hn h1 (by simp))
  | succ n ih =>
    intro hn h1
    have hw : wrap64 (((n + 1 : Nat) : Int) - 1) = (n : Int) := by unfold wrap64; omega
    have hp : x3[n]? = some (x3[n]'(by omega)) := List.getElem?_eq_getElem (by omega)
    have hpm : x3[n]'(by omega) ∈ x3 := List.getElem_mem _
    refine Ev.step (fun k => by rw [lambrequinref09_Sorted.l1, hw]) ?_
    refine Ev.pos (by omega) (Ev.pos (by omega) (Ev.pos (by omega) (Ev.pos (by omega) (Ev.pos (by omega) ?_))))
    rw [show rdOf ByteArray.empty l i = y from getD_at hy _, show rdOf ByteArray.empty x3 n = x3[n]'(by omega) from getD_at hp _]
    have hdrop : x3.drop n = x3[n]'(by omega) :: x3.drop (n + 1) := List.drop_eq_getElem_cons (by omega)
    by_cases c : toL y < toL (x3[n]'(by omega))
    · rw [(less_iff _ _).2 c]
      refine Ev.step (fun k => by rw [lambrequinref09_Sorted.j2, hw]) ?_
      refine Ev.pos rfl (ih (by omega) fun z hz => ?_)
      rw [hdrop] at hz
      rcases List.mem_cons.1 hz with rfl | hz
      · exact c
      · exact h1 z hz
    · have hlt : toL (x3[n]'(by omega)) < toL y := by
        rcases List.le_iff_lt_or_eq.1 (List.not_lt.1 c) with h | h
        · exact h
        · exact absurd (toL_inj h ▸ hpm) hno
      have h2 : ∀ z ∈ x3.take (n + 1), toL z < toL y := by
        intro z hz
        rw [List.take_add_one, hp] at hz
        rcases List.mem_append.1 hz with hz | hz
        · unfold SS at hs
          rw [← List.take_append_drop n x3, List.map_append, List.pairwise_append] at hs
          refine List.lt_trans (hs.2.2 (toL z) (List.mem_map.2 ⟨z, hz, rfl⟩) (toL (x3[n]'(by omega))) (List.mem_map.2 ⟨x3[n]'(by omega), by rw [hdrop]; exact List.mem_cons_self, rfl⟩)) hlt
        · simp at hz
          rw [hz]; exact hlt
      have hb : Op.bytesLess y.toList (x3[n]'(by omega)).toList = false := by
        cases h : Op.bytesLess y.toList (x3[n]'(by omega)).toList with
        | false => rfl
        | true => exact absurd ((less_iff _ _).1 h) c
      rw [hb]
      exact fall (n + 1) hn h1 h2
theorem Sorted_l0 (l : List ByteArray) (hl : l.length ≤ 1000000) : ∀ (r : List ByteArray) (n : Nat) (x3 : List ByteArray), l.drop n = r → n ≤ l.length → SS x3 → (∀ x, x ∈ x3 ↔ x ∈ l.take n) → x3.length ≤ n → Ev (fun k => lambrequinref09_Sorted.l0 k l x3 n) (setS l)
  | [], n, x3, h, hn, hs, hm, hc => by
    have hz : l.length ≤ n := by
      have := congrArg List.length h
      simp at this
      omega
    refine Ev.step (fun k => by rw [lambrequinref09_Sorted.l0]) ?_
    refine Ev.neg (drop_end h) (Ev.some (SS_ext hs (setS_sorted l) fun x => ?_))
    rw [hm, List.take_of_length_le hz, mem_setS]
  | y :: r, n, x3, h, hn, hs, hm, hc => by
    obtain ⟨h1, h2, h3, h4, h5⟩ := drop_more h (by omega)
    have hy : l[n]? = some y := by
      have := congrArg (fun z => z[0]?) h
      simpa using this
    have htake : ∀ x, x ∈ l.take (n + 1) ↔ x = y ∨ x ∈ l.take n := by
      intro x
      rw [List.take_add_one, hy, List.mem_append]
      simp [or_comm]
    refine Ev.step (fun k => by rw [lambrequinref09_Sorted.l0]) ?_
    refine Ev.pos h1 (Ev.pos h2 ?_)
    rw [show rdOf ByteArray.empty l n = y from h3 _, h5]
    refine Ev.bind (In_ev x3 y (by omega)) ?_
    cases hmm : mem y x3 with
    | true =>
      have hyx := mem_iff.1 hmm
      refine Ev.pos rfl (Sorted_l0 l hl r (n + 1) x3 h4 (by omega) hs (fun x => ?_) (by omega))
      rw [htake, ← hm]
      exact ⟨.inr, fun h => by rcases h with rfl | h; exact hyx; exact h⟩
    | false =>
      refine Ev.neg (by simp) ?_
      refine Sorted_l1 l x3 n y hl (by omega) hy hs (by rw [← mem_iff, hmm]; simp) _ (fun x' hs' hm' hc' => ?_) x3.length (Nat.le_refl _) (by simp)
      refine Sorted_l0 l hl r (n + 1) x' h4 (by omega) hs' (fun x => ?_) (by omega)
      rw [htake, hm', hm]
theorem Sorted_ev (l : List ByteArray) (hl : l.length ≤ 1000000) : Ev (fun k => lambrequinref09_Sorted.f k l) (setS l) := Sorted_l0 l hl l 0 [] rfl (by omega) (by simp [SS]) (by simp) (by simp)
end Go.Proofs.YtoekfmdcplphmaaGreat.H
namespace Go.Proofs.YtoekfmdcplphmaaGreat.H
open Go.RowKit Go.Proofs.YtoekfmdcplphmaaGreatW.PrintWords Go.Proofs.YtoekfmdcplphmaaGreatW.PrintLast Go.Proofs.YtoekfmdcplphmaaGreatW.PrintMore
attribute [local go_sem] max2_int min2_int max_two min_two max_three min_three max_four min_four
def lambrequinref20_Leads.j0 : Nat → List (Stmt) → Int → Int → Bool → Option (Bool)
 | 0, _, _, _, _ => none
 | k + 1, x0, x1, x2, x24 => if x24 = true then (some false) else (if 0 ≤ x1 then (if x1 < (x0.length : Int) then (if ((rd_T34 x0 x1).kind) = 7 then (if x2 = ((rd_T34 x0 x1).a) then (some true) else (some (x2 == ((rd_T34 x0 x1).b)))) else (if ((rd_T34 x0 x1).kind) = 8 then (some (x2 == ((rd_T34 x0 x1).a))) else (if ((rd_T34 x0 x1).kind) = 9 then (some false) else (some (x2 == (wrap64 (x1 + 1))))))) else (none)) else (none))
def lambrequinref20_Leads.f (k : Nat) (l0 : List (Stmt)) (a1 : Int) (a2 : Int) : Option (Bool) := if a1 < 0 then (lambrequinref20_Leads.j0 k l0 a1 a2 true) else (if a1 ≥ (l0.length : Int) then (lambrequinref20_Leads.j0 k l0 a1 a2 true) else (if a2 < 0 then (lambrequinref20_Leads.j0 k l0 a1 a2 true) else (lambrequinref20_Leads.j0 k l0 a1 a2 (decide (a2 ≥ (l0.length : Int))))))
theorem lambrequinref20_Leads.mono_l : ∀ k, (∀ y0 y1 y2 y3, LeO (lambrequinref20_Leads.j0 k y0 y1 y2 y3) (lambrequinref20_Leads.j0 (k + 1) y0 y1 y2 y3))
 | 0 => fun _ _ _ _ r h => by simp [lambrequinref20_Leads.j0] at h
 | k + 1 => by
  have ih0 := lambrequinref20_Leads.mono_l k
  intro y0 y1 y2 y3
  unfold lambrequinref20_Leads.j0
  repeat' first
  | (with_reducible exact ih0 _ _ _ _)
  | (with_reducible exact LeO.refl _)
  | (with_reducible exact LeO.none _)
  | (with_reducible refine LeO.ite ?_ ?_)
  | (with_reducible refine LeO.bind ?_ (fun _ => ?_))
  | exact ih0 _ _ _ _
  | exact LeO.none _
  | refine LeO.ite ?_ ?_
  | refine LeO.bind ?_ (fun _ => ?_)
theorem lambrequinref20_Leads.mono : ∀ a0 a1 a2 k, LeO (lambrequinref20_Leads.f k a0 a1 a2) (lambrequinref20_Leads.f (k + 1) a0 a1 a2) := by
 intro a0 a1 a2 k
 have ih0 := lambrequinref20_Leads.mono_l k
 unfold lambrequinref20_Leads.f
 repeat' first
   | (with_reducible exact ih0 _ _ _ _)
   | (with_reducible exact LeO.refl _)
   | (with_reducible exact LeO.none _)
   | (with_reducible refine LeO.ite ?_ ?_)
   | (with_reducible refine LeO.bind ?_ (fun _ => ?_))
   | exact ih0 _ _ _ _
   | exact LeO.none _
   | refine LeO.ite ?_ ?_
   | refine LeO.bind ?_ (fun _ => ?_)
set_option maxHeartbeats 8000000 in
set_option maxRecDepth 100000 in
theorem lambrequinref20_Leads.calls (k : Nat) (A0 : Option Addr) (c0 : Nat) (l0 : List (Stmt)) (a1 : Int) (a2 : Int) (r : Bool) (w : World) (hr0 : Kd.C k34 w A0 l0.length l0) (hc0 : l0.length ≤ c0) (h : lambrequinref20_Leads.f k l0 a1 a2 = some r) :
  Calls Tryz.prog 16 #[.slice A0 l0.length c0, .int .i64 a1, .int .i64 a2] w fun e w' => e = .returned (.bool r) ∧ Drawn0 w w' := by
 have HR0 := am hr0
 have HC0 := am hc0
 clear hr0 hc0
 have H : (if a1 < 0 then (lambrequinref20_Leads.j0 k l0 a1 a2 true) else (if a1 ≥ (l0.length : Int) then (lambrequinref20_Leads.j0 k l0 a1 a2 true) else (if a2 < 0 then (lambrequinref20_Leads.j0 k l0 a1 a2 true) else (lambrequinref20_Leads.j0 k l0 a1 a2 (decide (a2 ≥ (l0.length : Int))))))) = some r := h
 clear h
 have HC4 := am H
 clear H
 go_enter Tryz.func16, Tryz.ntmps16
 go_upto_region 1 with (fail)
 go_cut [24] (fun v24 wc => ∃ (kq : Nat) (x24_3 : Bool), v24 = .bool x24_3 ∧ Aside0 (lambrequinref20_Leads.j0 kq l0 a1 a2 x24_3 = some r) ∧ Aside0 (kq ≤ k) ∧ Drawn0 w wc)
 case first =>
  have H := HC4.out
  clear HC4
  by_cases c5 : a1 < 0
  ·rw [if_pos c5] at H
   have c5b0 : decide (a1 < 0) = true := decide_eq_true c5
   clear c5
   (first | rw [c5b0] | (simp only [i64_w, i32_w]; rw [c5b0]) | skip)
   have H' := am H
   clear H
   go_wp2
   go_meet
   case rel => exact ⟨_, (true), (by first | rfl | (simp; done) | (simp [*]; done)), H', ⟨by first | omega | exact Nat.le_refl _⟩, by repeat (first | exact Drawn0.refl _ | apply Drawn0.step)⟩
  rw [if_neg c5] at H
  have c5b0 : decide (a1 < 0) = false := decide_eq_false c5
  clear c5
  (first | rw [c5b0] | (simp only [i64_w, i32_w]; rw [c5b0]) | skip)
  by_cases c6 : a1 ≥ (l0.length : Int)
  ·rw [if_pos c6] at H
   have c6b0 : decide ((l0.length : Int) ≤ a1) = true := decide_eq_true c6
   clear c6
   have H' := am H
   clear H
   go_wp2
   go_meet
   case rel => exact ⟨_, (true), (by first | rfl | (simp; done) | (simp [*]; done)), H', ⟨by first | omega | exact Nat.le_refl _⟩, by repeat (first | exact Drawn0.refl _ | apply Drawn0.step)⟩
  rw [if_neg c6] at H
  have c6b0 : decide ((l0.length : Int) ≤ a1) = false := decide_eq_false c6
  clear c6
  by_cases c7 : a2 < 0
  ·rw [if_pos c7] at H
   have c7b0 : decide (a2 < 0) = true := decide_eq_true c7
   clear c7
   have H' := am H
   clear H
   go_wp2
   go_meet
   case rel => exact ⟨_, (true), (by first | rfl | (simp; done) | (simp [*]; done)), H', ⟨by first | omega | exact Nat.le_refl _⟩, by repeat (first | exact Drawn0.refl _ | apply Drawn0.step)⟩
  rw [if_neg c7] at H
  have c7b0 : decide (a2 < 0) = false := decide_eq_false c7
  clear c7
  have H' := am H
  clear H
  go_wp2
  go_meet
  case rel => exact ⟨_, (decide (a2 ≥ (l0.length : Int))), (by first | rfl | (simp; done) | (simp [*]; done)), H', ⟨by first | omega | exact Nat.le_refl _⟩, by repeat (first | exact Drawn0.refl _ | apply Drawn0.step)⟩
 case rest =>
  clear HC4
  try clear c1
  try clear p2
  try clear c5
  try clear c5b0
  try clear c6
  try clear c6b0
  try clear c7
  try clear c7b0
  obtain ⟨kq, x24_3, rfl, HA, HJ3, ⟨mc3, rfl⟩⟩ := hcut
  cases kq with
  | zero => exact absurd HA.out (by simp [lambrequinref20_Leads.j0])
  | succ kj3 =>
   have H := HA.out
   clear HA
   simp only [lambrequinref20_Leads.j0] at H
   by_cases c8 : x24_3 = true
   ·subst c8
    have H1 : (some false) = some r := by rw [if_pos rfl] at H; exact H
    clear H
    have H := H1
    clear H1
    obtain rfl := Option.some.inj H
    go_wp2
    go_ret
    exact ⟨by first | rfl | (simp; done) | (simp [*]; done), by repeat (first | exact Drawn0.refl _ | apply Drawn0.step)⟩
   replace c8 := Bool.eq_false_iff.mpr c8
   subst c8
   have H1 : (if 0 ≤ a1 then (if a1 < (l0.length : Int) then (if ((rd_T34 l0 a1).kind) = 7 then (if a2 = ((rd_T34 l0 a1).a) then (some true) else (some (a2 == ((rd_T34 l0 a1).b)))) else (if ((rd_T34 l0 a1).kind) = 8 then (some (a2 == ((rd_T34 l0 a1).a))) else (if ((rd_T34 l0 a1).kind) = 9 then (some false) else (some (a2 == (wrap64 (a1 + 1))))))) else (none)) else (none)) = some r := by rw [if_neg (show ¬ (false = true) by decide)] at H; exact H
   clear H
   have H := H1
   clear H1
   by_cases c9 : 0 ≤ a1
   rotate_left
   ·rw [if_neg c9] at H
    exact absurd H (by simp)
   rw [if_pos c9] at H
   have c9b0 : decide (0 ≤ a1) = true := decide_eq_true c9
   clear c9
   by_cases c10 : a1 < (l0.length : Int)
   rotate_left
   ·rw [if_neg c10] at H
    exact absurd H (by simp)
   rw [if_pos c10] at H
   have c10b0 : decide (a1 < (l0.length : Int)) = true := decide_eq_true c10
   clear c10
   by_cases c11 : ((rd_T34 l0 a1).kind) = 7
   ·rw [if_pos c11] at H
    have c11b0 : (((rd_T34 l0 a1).kind) == 7) = true := beq_iff_eq.mpr c11
    have c11b1 : (((rd_T34 l0 a1).kind) != 7) = false := bne_eq_false_iff_eq.mpr c11
    clear c11
    by_cases c12 : a2 = ((rd_T34 l0 a1).a)
    ·rw [if_pos c12] at H
     have c12b0 : (a2 == ((rd_T34 l0 a1).a)) = true := beq_iff_eq.mpr c12
     have c12b1 : (a2 != ((rd_T34 l0 a1).a)) = false := bne_eq_false_iff_eq.mpr c12
     clear c12
     obtain rfl := Option.some.inj H
     have p101 : 0 ≤ (a1 : Int) := of_decide_eq_true (by first | (with_reducible assumption) | assumption)
     have q101 : a1 < (l0.length : Int) := of_decide_eq_true (by first | (with_reducible assumption) | assumption)
     obtain ⟨ad101, e101, hx101_0, hx101_1, hx101_2, hx101_3, hx101_4, hx101_5, hx101_6, hx101_7⟩ := at_T34 HR0.out a1 p101 q101
     cases e101
     replace p101 := eq_true p101
     replace q101 := eq_true q101
     have p102 : 0 ≤ (a1 : Int) := of_decide_eq_true (by first | (with_reducible assumption) | assumption)
     have q102 : a1 < (l0.length : Int) := of_decide_eq_true (by first | (with_reducible assumption) | assumption)
     obtain ⟨ad102, e102, hx102_0, hx102_1, hx102_2, hx102_3, hx102_4, hx102_5, hx102_6, hx102_7⟩ := at_T34 HR0.out a1 p102 q102
     obtain rfl : ad101 = ad102 := (by injection e102)
     replace p102 := eq_true p102
     replace q102 := eq_true q102
     go_wp2
     go_ret
     exact ⟨by first | rfl | (simp; done) | (simp [*]; done), by repeat (first | exact Drawn0.refl _ | apply Drawn0.step)⟩
    rw [if_neg c12] at H
    have c12b0 : (a2 == ((rd_T34 l0 a1).a)) = false := beq_eq_false_iff_ne.mpr c12
    have c12b1 : (a2 != ((rd_T34 l0 a1).a)) = true := bne_iff_ne.mpr c12
    obtain rfl := Option.some.inj H
    have p101 : 0 ≤ (a1 : Int) := of_decide_eq_true (by first | (with_reducible assumption) | assumption)
    have q101 : a1 < (l0.length : Int) := of_decide_eq_true (by first | (with_reducible assumption) | assumption)
    obtain ⟨ad101, e101, hx101_0, hx101_1, hx101_2, hx101_3, hx101_4, hx101_5, hx101_6, hx101_7⟩ := at_T34 HR0.out a1 p101 q101
    cases e101
    replace p101 := eq_true p101
    replace q101 := eq_true q101
    have p102 : 0 ≤ (a1 : Int) := of_decide_eq_true (by first | (with_reducible assumption) | assumption)
    have q102 : a1 < (l0.length : Int) := of_decide_eq_true (by first | (with_reducible assumption) | assumption)
    obtain ⟨ad102, e102, hx102_0, hx102_1, hx102_2, hx102_3, hx102_4, hx102_5, hx102_6, hx102_7⟩ := at_T34 HR0.out a1 p102 q102
    obtain rfl : ad101 = ad102 := (by injection e102)
    replace p102 := eq_true p102
    replace q102 := eq_true q102
    have p103 : 0 ≤ (a1 : Int) := of_decide_eq_true (by first | (with_reducible assumption) | assumption)
    have q103 : a1 < (l0.length : Int) := of_decide_eq_true (by first | (with_reducible assumption) | assumption)
    obtain ⟨ad103, e103, hx103_0, hx103_1, hx103_2, hx103_3, hx103_4, hx103_5, hx103_6, hx103_7⟩ := at_T34 HR0.out a1 p103 q103
    obtain rfl : ad101 = ad103 := (by injection e103)
    replace p103 := eq_true p103
    replace q103 := eq_true q103
    go_wp2
    go_ret
    exact ⟨by first | rfl | (simp; done) | (simp [*]; done), by repeat (first | exact Drawn0.refl _ | apply Drawn0.step)⟩
   rw [if_neg c11] at H
   have c11b0 : (((rd_T34 l0 a1).kind) == 7) = false := beq_eq_false_iff_ne.mpr c11
   have c11b1 : (((rd_T34 l0 a1).kind) != 7) = true := bne_iff_ne.mpr c11
   by_cases c13 : ((rd_T34 l0 a1).kind) = 8
   ·rw [if_pos c13] at H
    have c13b0 : (((rd_T34 l0 a1).kind) == 8) = true := beq_iff_eq.mpr c13
    have c13b1 : (((rd_T34 l0 a1).kind) != 8) = false := bne_eq_false_iff_eq.mpr c13
    clear c13
    obtain rfl := Option.some.inj H
    have p101 : 0 ≤ (a1 : Int) := of_decide_eq_true (by first | (with_reducible assumption) | assumption)
    have q101 : a1 < (l0.length : Int) := of_decide_eq_true (by first | (with_reducible assumption) | assumption)
    obtain ⟨ad101, e101, hx101_0, hx101_1, hx101_2, hx101_3, hx101_4, hx101_5, hx101_6, hx101_7⟩ := at_T34 HR0.out a1 p101 q101
    cases e101
    replace p101 := eq_true p101
    replace q101 := eq_true q101
    have p104 : 0 ≤ (a1 : Int) := of_decide_eq_true (by first | (with_reducible assumption) | assumption)
    have q104 : a1 < (l0.length : Int) := of_decide_eq_true (by first | (with_reducible assumption) | assumption)
    obtain ⟨ad104, e104, hx104_0, hx104_1, hx104_2, hx104_3, hx104_4, hx104_5, hx104_6, hx104_7⟩ := at_T34 HR0.out a1 p104 q104
    obtain rfl : ad101 = ad104 := (by injection e104)
    replace p104 := eq_true p104
    replace q104 := eq_true q104
    go_wp2
    go_ret
    exact ⟨by first | rfl | (simp; done) | (simp [*]; done), by repeat (first | exact Drawn0.refl _ | apply Drawn0.step)⟩
   rw [if_neg c13] at H
   have c13b0 : (((rd_T34 l0 a1).kind) == 8) = false := beq_eq_false_iff_ne.mpr c13
   have c13b1 : (((rd_T34 l0 a1).kind) != 8) = true := bne_iff_ne.mpr c13
   by_cases c14 : ((rd_T34 l0 a1).kind) = 9
   ·rw [if_pos c14] at H
    have c14b0 : (((rd_T34 l0 a1).kind) == 9) = true := beq_iff_eq.mpr c14
    have c14b1 : (((rd_T34 l0 a1).kind) != 9) = false := bne_eq_false_iff_eq.mpr c14
    clear c14
    obtain rfl := Option.some.inj H
    have p101 : 0 ≤ (a1 : Int) := of_decide_eq_true (by first | (with_reducible assumption) | assumption)
    have q101 : a1 < (l0.length : Int) := of_decide_eq_true (by first | (with_reducible assumption) | assumption)
    obtain ⟨ad101, e101, hx101_0, hx101_1, hx101_2, hx101_3, hx101_4, hx101_5, hx101_6, hx101_7⟩ := at_T34 HR0.out a1 p101 q101
    cases e101
    replace p101 := eq_true p101
    replace q101 := eq_true q101
    go_wp2
    go_ret
    exact ⟨by first | rfl | (simp; done) | (simp [*]; done), by repeat (first | exact Drawn0.refl _ | apply Drawn0.step)⟩
   rw [if_neg c14] at H
   have c14b0 : (((rd_T34 l0 a1).kind) == 9) = false := beq_eq_false_iff_ne.mpr c14
   have c14b1 : (((rd_T34 l0 a1).kind) != 9) = true := bne_iff_ne.mpr c14
   obtain rfl := Option.some.inj H
   have p101 : 0 ≤ (a1 : Int) := of_decide_eq_true (by first | (with_reducible assumption) | assumption)
   have q101 : a1 < (l0.length : Int) := of_decide_eq_true (by first | (with_reducible assumption) | assumption)
   obtain ⟨ad101, e101, hx101_0, hx101_1, hx101_2, hx101_3, hx101_4, hx101_5, hx101_6, hx101_7⟩ := at_T34 HR0.out a1 p101 q101
   cases e101
   replace p101 := eq_true p101
   replace q101 := eq_true q101
   go_wp2
   go_ret
   exact ⟨by first | rfl | (simp; done) | (simp [*]; done), by repeat (first | exact Drawn0.refl _ | apply Drawn0.step)⟩
def lambrequinref20_Uses.f (k : Nat) (a0_0 : Int) (a0_1 : ByteArray) (a0_2 : ByteArray) (a0_3 : ByteArray) (a0_4 : ByteArray) (a0_5 : Int) (a0_6 : Int) (a0_7 : Int) : Option (List ByteArray) := if a0_0 = 2 then ((lambrequinref09_Sorted.f k (([a0_2, a0_3] : List ByteArray))).bind fun t105 => (some t105)) else (if a0_0 = 3 then (some (([a0_2] : List ByteArray))) else (if a0_0 = 5 then (some (([a0_2] : List ByteArray))) else (if a0_0 = 6 then (some (([a0_2] : List ByteArray))) else (if a0_0 = 7 then (some (([a0_2] : List ByteArray))) else (some ([] : List ByteArray))))))
theorem lambrequinref20_Uses.mono : ∀ a0 a1 a2 a3 a4 a5 a6 a7 k, LeO (lambrequinref20_Uses.f k a0 a1 a2 a3 a4 a5 a6 a7) (lambrequinref20_Uses.f (k + 1) a0 a1 a2 a3 a4 a5 a6 a7) := by
 intro a0 a1 a2 a3 a4 a5 a6 a7 k
 unfold lambrequinref20_Uses.f
 repeat' first
   | (with_reducible exact lambrequinref09_Sorted.mono _ _)
   | (with_reducible exact LeO.refl _)
   | (with_reducible exact LeO.none _)
   | (with_reducible refine LeO.ite ?_ ?_)
   | (with_reducible refine LeO.bind ?_ (fun _ => ?_))
   | exact lambrequinref09_Sorted.mono _ _
   | exact LeO.none _
   | refine LeO.ite ?_ ?_
   | refine LeO.bind ?_ (fun _ => ?_)
set_option maxHeartbeats 8000000 in
set_option maxRecDepth 100000 in
theorem lambrequinref20_Uses.calls (k : Nat) (a0_0 : Int) (a0_1 : ByteArray) (a0_2 : ByteArray) (a0_3 : ByteArray) (a0_4 : ByteArray) (a0_5 : Int) (a0_6 : Int) (a0_7 : Int) (r : List ByteArray) (w : World) (h : lambrequinref20_Uses.f k a0_0 a0_1 a0_2 a0_3 a0_4 a0_5 a0_6 a0_7 = some r) :
  Calls Tryz.prog 20 #[.agg #[.int .i64 a0_0, .string a0_1, .string a0_2, .string a0_3, .string a0_4, .int .i64 a0_5, .int .i64 a0_6, .int .i64 a0_7]] w fun e w' => ∃ v0_ : Value, e = .returned (v0_) ∧ Kd.R Kd.string 9 w' w.heap.size (fun _ => True) v0_ r ∧ Below w.heap.size w w' := by
 have hu34 := Tryz.underlying34
 have HB := am (Below.refl w.heap.size w)
 have H : (if a0_0 = 2 then ((lambrequinref09_Sorted.f k (([a0_2, a0_3] : List ByteArray))).bind fun t105 => (some t105)) else (if a0_0 = 3 then (some (([a0_2] : List ByteArray))) else (if a0_0 = 5 then (some (([a0_2] : List ByteArray))) else (if a0_0 = 6 then (some (([a0_2] : List ByteArray))) else (if a0_0 = 7 then (some (([a0_2] : List ByteArray))) else (some ([] : List ByteArray))))))) = some r := h
 clear h
 by_cases c2 : a0_0 = 2
 ·rw [if_pos c2] at H
  have c2b0 : (a0_0 == 2) = true := beq_iff_eq.mpr c2
  have c2b1 : (a0_0 != 2) = false := bne_eq_false_iff_eq.mpr c2
  clear c2
  obtain ⟨y102, hy102⟩ : ∃ y_ : List ByteArray, y_ = (([a0_2, a0_3] : List ByteArray)) := ⟨_, rfl⟩
  replace H : ((lambrequinref09_Sorted.f k y102).bind fun t105 => (some t105)) = some r := by first | (rw [hy102]; with_reducible exact H) | (have H2_ := (Option.bind_some _ _).symm.trans H; rw [hy102]; with_reducible exact H2_) | (have H2_ := (Option.bind_some _ _).symm.trans H; with_reducible exact H2_) | with_reducible exact H | (rw [hy102]; exact H) | exact H
  have Ny102 := am hy102
  clear hy102
  replace H := Option.bind_eq_some_iff.mp H
  obtain ⟨t105, A30, H⟩ := H
  replace H : (some t105) = some r := H
  have A3 := am A30
  clear A30
  obtain rfl := Option.some.inj H
  go_enter Tryz.func20, Tryz.ntmps20
  go_wp2_with (first | ((with_reducible refine gate_dst (N := 1) rfl ?_); refine box_event ?hg (N := 1) ?hd (cs := #[.int .i64 a0_0, .string a0_1, .string a0_2, .string a0_3, .string a0_4, .int .i64 a0_5, .int .i64 a0_6, .int .i64 a0_7]) (t := 34) ?hr ?_; (case hd => rfl); (case hg => rfl); (case hr => first | (go_simp; done) | (go_simp; rfl)); intro gb101 hg w4 hbox hb; have BK101 := am (hbox); have GW101 := am (gw_ hg HB.out); have GE101 := GW101; replace HB := am (bs_ HB.out hb); clear hb hbox hg; obtain ⟨hcz5_0, hcz5_1, hcz5_2, hcz5_3, hcz5_4, hcz5_5, hcz5_6, hcz5_7, hfz5_0, hfz5_1, hfz5_2, hfz5_3, hfz5_4, hfz5_5, hfz5_6, hfz5_7⟩ := bc8 BK101.out) | ((with_reducible refine gate_dst (N := 10) rfl ?_); refine Kd.R_lit Kd.string _ 9 ?hg (N := 10) ?hd (xs := ([a0_2, a0_3] : List ByteArray)) (inner := [.string a0_2, .string a0_3]) (ok := fun _ => True) (okp := fun _ => True) ?hr ?hp (fun _ hk => hk) trivial (Below.refl _ _) (Nat.le_refl _) (by simp) ?_; (case hd => rfl); (case hg => rfl); (case hr => first | (go_simp; done) | (go_simp; rfl)); (case hp => exact (Reps.one (show Kd.M Kd.string _ _ _ a0_2 [.string a0_2] from rfl) (Reps.one (show Kd.M Kd.string _ _ _ a0_3 [.string a0_3] from rfl) (Reps.none _ _)))); intro v103 w6 ho7 hb hg_ hnew_; clear hg_ hnew_; (first | rw [← Ny102.out] at ho7 | (simp only [Int.reduceToNat] at ho7; rw [← Ny102.out] at ho7)); have HO104 := am (Kd.R_lower ho7 (below_size (pL HB.out))); replace BK101 := am (bb_ BK101.out hb); replace HB := am (bs_ HB.out hb); clear hb ho7; obtain ⟨Ao8, co8, eo8⟩ := Kd.R_slice HO104.out; subst eo8) | ((with_reducible refine gate_callee (f := 36) rfl ?_); refine goesL_ (some 11) rfl rfl Tryz.func36 (by kernel_rfl) rfl #[.slice Ao8 y102.length co8] rfl gl_ ?_; (with_reducible refine (lambrequinref09_Sorted.calls k _ _ y102 t105 _ ?side1 ?side2 A3.out).mono ?_); (case side1 => repeat (first | exact (Kd.R_reads' HO104.out).2.2 | (with_reducible refine Kd.C_alloc ?_ _) | (with_reducible refine Kd.C_drewN ?_ _) | (with_reducible refine Kd.C_drew ?_))); (case side2 => exact (Kd.R_reads' HO104.out).2.1); rintro e w9 ⟨v106, rfl, ho0, hb⟩; refine ⟨_, rfl, ?_⟩; have HO107 := am (Kd.R_lower (Kd.R_new' ho0 (Kd.R_lt (pR HO104.out))) (below_size (pL HB.out))); replace HO104 := am (Kd.R_elder' (pR HO104.out) (Kd.R_base ho0) hb); replace BK101 := am (bb_ BK101.out hb); replace HB := am (bs_ HB.out hb); (try clear hb); (try clear hb2); (try clear hk); (try clear hi); (try clear ho0)))
  go_ret
  exact ⟨_, er_, by (with_reducible repeat (first | apply Ra | apply Rn | apply Rd)); exact Kd.R_mono HO107.out (fun _ hk => trivial), pL HB.out⟩
 rw [if_neg c2] at H
 have c2b0 : (a0_0 == 2) = false := beq_eq_false_iff_ne.mpr c2
 have c2b1 : (a0_0 != 2) = true := bne_iff_ne.mpr c2
 by_cases c10 : a0_0 = 3
 ·rw [if_pos c10] at H
  have c10b0 : (a0_0 == 3) = true := beq_iff_eq.mpr c10
  have c10b1 : (a0_0 != 3) = false := bne_eq_false_iff_eq.mpr c10
  clear c10
  obtain ⟨y108, hy108⟩ : ∃ y_ : List ByteArray, y_ = (([a0_2] : List ByteArray)) := ⟨_, rfl⟩
  replace H : (some y108) = some r := by first | (rw [hy108]; with_reducible exact H) | (have H2_ := (Option.bind_some _ _).symm.trans H; rw [hy108]; with_reducible exact H2_) | (have H2_ := (Option.bind_some _ _).symm.trans H; with_reducible exact H2_) | with_reducible exact H | (rw [hy108]; exact H) | exact H
  have Ny108 := am hy108
  clear hy108
  obtain rfl := Option.some.inj H
  go_enter Tryz.func20, Tryz.ntmps20
  go_wp2_with (first | ((with_reducible refine gate_dst (N := 1) rfl ?_); refine box_event ?hg (N := 1) ?hd (cs := #[.int .i64 a0_0, .string a0_1, .string a0_2, .string a0_3, .string a0_4, .int .i64 a0_5, .int .i64 a0_6, .int .i64 a0_7]) (t := 34) ?hr ?_; (case hd => rfl); (case hg => rfl); (case hr => first | (go_simp; done) | (go_simp; rfl)); intro gb101 hg w11 hbox hb; have BK101 := am (hbox); have GW101 := am (gw_ hg HB.out); have GE101 := GW101; replace HB := am (bs_ HB.out hb); clear hb hbox hg; obtain ⟨hcz12_0, hcz12_1, hcz12_2, hcz12_3, hcz12_4, hcz12_5, hcz12_6, hcz12_7, hfz12_0, hfz12_1, hfz12_2, hfz12_3, hfz12_4, hfz12_5, hfz12_6, hfz12_7⟩ := bc8 BK101.out) | ((with_reducible refine gate_dst (N := 32) rfl ?_); refine Kd.R_lit Kd.string _ 9 ?hg (N := 32) ?hd (xs := ([a0_2] : List ByteArray)) (inner := [.string a0_2]) (ok := fun _ => True) (okp := fun _ => True) ?hr ?hp (fun _ hk => hk) trivial (Below.refl _ _) (Nat.le_refl _) (by simp) ?_; (case hd => rfl); (case hg => rfl); (case hr => first | (go_simp; done) | (go_simp; rfl)); (case hp => exact (Reps.one (show Kd.M Kd.string _ _ _ a0_2 [.string a0_2] from rfl) (Reps.none _ _))); intro v109 w13 ho14 hb hg_ hnew_; clear hg_ hnew_; (first | rw [← Ny108.out] at ho14 | (simp only [Int.reduceToNat] at ho14; rw [← Ny108.out] at ho14)); have HO110 := am (Kd.R_lower ho14 (below_size (pL HB.out))); replace BK101 := am (bb_ BK101.out hb); replace HB := am (bs_ HB.out hb); clear hb ho14))
  go_ret
  exact ⟨_, er_, by (with_reducible repeat (first | apply Ra | apply Rn | apply Rd)); exact HO110.out, pL HB.out⟩
 rw [if_neg c10] at H
 have c10b0 : (a0_0 == 3) = false := beq_eq_false_iff_ne.mpr c10
 have c10b1 : (a0_0 != 3) = true := bne_iff_ne.mpr c10
 by_cases c15 : a0_0 = 5
 ·rw [if_pos c15] at H
  have c15b0 : (a0_0 == 5) = true := beq_iff_eq.mpr c15
  have c15b1 : (a0_0 != 5) = false := bne_eq_false_iff_eq.mpr c15
  clear c15
  obtain ⟨y111, hy111⟩ : ∃ y_ : List ByteArray, y_ = (([a0_2] : List ByteArray)) := ⟨_, rfl⟩
  replace H : (some y111) = some r := by first | (rw [hy111]; with_reducible exact H) | (have H2_ := (Option.bind_some _ _).symm.trans H; rw [hy111]; with_reducible exact H2_) | (have H2_ := (Option.bind_some _ _).symm.trans H; with_reducible exact H2_) | with_reducible exact H | (rw [hy111]; exact H) | exact H
  have Ny111 := am hy111
  clear hy111
  obtain rfl := Option.some.inj H
  go_enter Tryz.func20, Tryz.ntmps20
  go_wp2_with (first | ((with_reducible refine gate_dst (N := 1) rfl ?_); refine box_event ?hg (N := 1) ?hd (cs := #[.int .i64 a0_0, .string a0_1, .string a0_2, .string a0_3, .string a0_4, .int .i64 a0_5, .int .i64 a0_6, .int .i64 a0_7]) (t := 34) ?hr ?_; (case hd => rfl); (case hg => rfl); (case hr => first | (go_simp; done) | (go_simp; rfl)); intro gb101 hg w16 hbox hb; have BK101 := am (hbox); have GW101 := am (gw_ hg HB.out); have GE101 := GW101; replace HB := am (bs_ HB.out hb); clear hb hbox hg; obtain ⟨hcz17_0, hcz17_1, hcz17_2, hcz17_3, hcz17_4, hcz17_5, hcz17_6, hcz17_7, hfz17_0, hfz17_1, hfz17_2, hfz17_3, hfz17_4, hfz17_5, hfz17_6, hfz17_7⟩ := bc8 BK101.out) | ((with_reducible refine gate_dst (N := 32) rfl ?_); refine Kd.R_lit Kd.string _ 9 ?hg (N := 32) ?hd (xs := ([a0_2] : List ByteArray)) (inner := [.string a0_2]) (ok := fun _ => True) (okp := fun _ => True) ?hr ?hp (fun _ hk => hk) trivial (Below.refl _ _) (Nat.le_refl _) (by simp) ?_; (case hd => rfl); (case hg => rfl); (case hr => first | (go_simp; done) | (go_simp; rfl)); (case hp => exact (Reps.one (show Kd.M Kd.string _ _ _ a0_2 [.string a0_2] from rfl) (Reps.none _ _))); intro v112 w18 ho19 hb hg_ hnew_; clear hg_ hnew_; (first | rw [← Ny111.out] at ho19 | (simp only [Int.reduceToNat] at ho19; rw [← Ny111.out] at ho19)); have HO113 := am (Kd.R_lower ho19 (below_size (pL HB.out))); replace BK101 := am (bb_ BK101.out hb); replace HB := am (bs_ HB.out hb); clear hb ho19))
  go_ret
  exact ⟨_, er_, by (with_reducible repeat (first | apply Ra | apply Rn | apply Rd)); exact HO113.out, pL HB.out⟩
 rw [if_neg c15] at H
 have c15b0 : (a0_0 == 5) = false := beq_eq_false_iff_ne.mpr c15
 have c15b1 : (a0_0 != 5) = true := bne_iff_ne.mpr c15
 by_cases c20 : a0_0 = 6
 ·rw [if_pos c20] at H
  have c20b0 : (a0_0 == 6) = true := beq_iff_eq.mpr c20
  have c20b1 : (a0_0 != 6) = false := bne_eq_false_iff_eq.mpr c20
  clear c20
  obtain ⟨y114, hy114⟩ : ∃ y_ : List ByteArray, y_ = (([a0_2] : List ByteArray)) := ⟨_, rfl⟩
  replace H : (some y114) = some r := by first | (rw [hy114]; with_reducible exact H) | (have H2_ := (Option.bind_some _ _).symm.trans H; rw [hy114]; with_reducible exact H2_) | (have H2_ := (Option.bind_some _ _).symm.trans H; with_reducible exact H2_) | with_reducible exact H | (rw [hy114]; exact H) | exact H
  have Ny114 := am hy114
  clear hy114
  obtain rfl := Option.some.inj H
  go_enter Tryz.func20, Tryz.ntmps20
  go_wp2_with (first | ((with_reducible refine gate_dst (N := 1) rfl ?_); refine box_event ?hg (N := 1) ?hd (cs := #[.int .i64 a0_0, .string a0_1, .string a0_2, .string a0_3, .string a0_4, .int .i64 a0_5, .int .i64 a0_6, .int .i64 a0_7]) (t := 34) ?hr ?_; (case hd => rfl); (case hg => rfl); (case hr => first | (go_simp; done) | (go_simp; rfl)); intro gb101 hg w21 hbox hb; have BK101 := am (hbox); have GW101 := am (gw_ hg HB.out); have GE101 := GW101; replace HB := am (bs_ HB.out hb); clear hb hbox hg; obtain ⟨hcz22_0, hcz22_1, hcz22_2, hcz22_3, hcz22_4, hcz22_5, hcz22_6, hcz22_7, hfz22_0, hfz22_1, hfz22_2, hfz22_3, hfz22_4, hfz22_5, hfz22_6, hfz22_7⟩ := bc8 BK101.out) | ((with_reducible refine gate_dst (N := 32) rfl ?_); refine Kd.R_lit Kd.string _ 9 ?hg (N := 32) ?hd (xs := ([a0_2] : List ByteArray)) (inner := [.string a0_2]) (ok := fun _ => True) (okp := fun _ => True) ?hr ?hp (fun _ hk => hk) trivial (Below.refl _ _) (Nat.le_refl _) (by simp) ?_; (case hd => rfl); (case hg => rfl); (case hr => first | (go_simp; done) | (go_simp; rfl)); (case hp => exact (Reps.one (show Kd.M Kd.string _ _ _ a0_2 [.string a0_2] from rfl) (Reps.none _ _))); intro v115 w23 ho24 hb hg_ hnew_; clear hg_ hnew_; (first | rw [← Ny114.out] at ho24 | (simp only [Int.reduceToNat] at ho24; rw [← Ny114.out] at ho24)); have HO116 := am (Kd.R_lower ho24 (below_size (pL HB.out))); replace BK101 := am (bb_ BK101.out hb); replace HB := am (bs_ HB.out hb); clear hb ho24))
  go_ret
  exact ⟨_, er_, by (with_reducible repeat (first | apply Ra | apply Rn | apply Rd)); exact HO116.out, pL HB.out⟩
 rw [if_neg c20] at H
 have c20b0 : (a0_0 == 6) = false := beq_eq_false_iff_ne.mpr c20
 have c20b1 : (a0_0 != 6) = true := bne_iff_ne.mpr c20
 by_cases c25 : a0_0 = 7
 ·rw [if_pos c25] at H
  have c25b0 : (a0_0 == 7) = true := beq_iff_eq.mpr c25
  have c25b1 : (a0_0 != 7) = false := bne_eq_false_iff_eq.mpr c25
  clear c25
  obtain ⟨y117, hy117⟩ : ∃ y_ : List ByteArray, y_ = (([a0_2] : List ByteArray)) := ⟨_, rfl⟩
  replace H : (some y117) = some r := by first | (rw [hy117]; with_reducible exact H) | (have H2_ := (Option.bind_some _ _).symm.trans H; rw [hy117]; with_reducible exact H2_) | (have H2_ := (Option.bind_some _ _).symm.trans H; with_reducible exact H2_) | with_reducible exact H | (rw [hy117]; exact H) | exact H
  have Ny117 := am hy117
  clear hy117
  obtain rfl := Option.some.inj H
  go_enter Tryz.func20, Tryz.ntmps20
  go_wp2_with (first | ((with_reducible refine gate_dst (N := 1) rfl ?_); refine box_event ?hg (N := 1) ?hd (cs := #[.int .i64 a0_0, .string a0_1, .string a0_2, .string a0_3, .string a0_4, .int .i64 a0_5, .int .i64 a0_6, .int .i64 a0_7]) (t := 34) ?hr ?_; (case hd => rfl); (case hg => rfl); (case hr => first | (go_simp; done) | (go_simp; rfl)); intro gb101 hg w26 hbox hb; have BK101 := am (hbox); have GW101 := am (gw_ hg HB.out); have GE101 := GW101; replace HB := am (bs_ HB.out hb); clear hb hbox hg; obtain ⟨hcz27_0, hcz27_1, hcz27_2, hcz27_3, hcz27_4, hcz27_5, hcz27_6, hcz27_7, hfz27_0, hfz27_1, hfz27_2, hfz27_3, hfz27_4, hfz27_5, hfz27_6, hfz27_7⟩ := bc8 BK101.out) | ((with_reducible refine gate_dst (N := 32) rfl ?_); refine Kd.R_lit Kd.string _ 9 ?hg (N := 32) ?hd (xs := ([a0_2] : List ByteArray)) (inner := [.string a0_2]) (ok := fun _ => True) (okp := fun _ => True) ?hr ?hp (fun _ hk => hk) trivial (Below.refl _ _) (Nat.le_refl _) (by simp) ?_; (case hd => rfl); (case hg => rfl); (case hr => first | (go_simp; done) | (go_simp; rfl)); (case hp => exact (Reps.one (show Kd.M Kd.string _ _ _ a0_2 [.string a0_2] from rfl) (Reps.none _ _))); intro v118 w28 ho29 hb hg_ hnew_; clear hg_ hnew_; (first | rw [← Ny117.out] at ho29 | (simp only [Int.reduceToNat] at ho29; rw [← Ny117.out] at ho29)); have HO119 := am (Kd.R_lower ho29 (below_size (pL HB.out))); replace BK101 := am (bb_ BK101.out hb); replace HB := am (bs_ HB.out hb); clear hb ho29))
  go_ret
  exact ⟨_, er_, by (with_reducible repeat (first | apply Ra | apply Rn | apply Rd)); exact HO119.out, pL HB.out⟩
 rw [if_neg c25] at H
 have c25b0 : (a0_0 == 7) = false := beq_eq_false_iff_ne.mpr c25
 have c25b1 : (a0_0 != 7) = true := bne_iff_ne.mpr c25
 obtain rfl := Option.some.inj H
 go_enter Tryz.func20, Tryz.ntmps20
 go_wp2_with (first | ((with_reducible refine gate_dst (N := 1) rfl ?_); refine box_event ?hg (N := 1) ?hd (cs := #[.int .i64 a0_0, .string a0_1, .string a0_2, .string a0_3, .string a0_4, .int .i64 a0_5, .int .i64 a0_6, .int .i64 a0_7]) (t := 34) ?hr ?_; (case hd => rfl); (case hg => rfl); (case hr => first | (go_simp; done) | (go_simp; rfl)); intro gb101 hg w30 hbox hb; have BK101 := am (hbox); have GW101 := am (gw_ hg HB.out); have GE101 := GW101; replace HB := am (bs_ HB.out hb); clear hb hbox hg; obtain ⟨hcz31_0, hcz31_1, hcz31_2, hcz31_3, hcz31_4, hcz31_5, hcz31_6, hcz31_7, hfz31_0, hfz31_1, hfz31_2, hfz31_3, hfz31_4, hfz31_5, hfz31_6, hfz31_7⟩ := bc8 BK101.out))
 go_ret
 exact ⟨_, er_, by first | exact Kd.R_nil _ _ _ _ _ | exact Kd.N_nil _ _ _ _ _ | exact Kd.V_nil _ _ _ _ _ | exact Kd.Q_nil _ _ _ _ _ | exact Kd.S_nil _ _ _ _ _, pL HB.out⟩
def lambrequinref20_Def.f (a0_0 : Int) (a0_1 : ByteArray) (a0_2 : ByteArray) (a0_3 : ByteArray) (a0_4 : ByteArray) (a0_5 : Int) (a0_6 : Int) (a0_7 : Int) : Option (ByteArray × Bool) := if a0_0 ≥ 1 then (if a0_0 ≤ 5 then (some (a0_1, true)) else (some ((⟨#[]⟩ : ByteArray), false))) else (some ((⟨#[]⟩ : ByteArray), false))
set_option maxHeartbeats 8000000 in
set_option maxRecDepth 100000 in
theorem lambrequinref20_Def.calls (a0_0 : Int) (a0_1 : ByteArray) (a0_2 : ByteArray) (a0_3 : ByteArray) (a0_4 : ByteArray) (a0_5 : Int) (a0_6 : Int) (a0_7 : Int) (r1 : ByteArray) (r2 : Bool) (w : World) (h : lambrequinref20_Def.f a0_0 a0_1 a0_2 a0_3 a0_4 a0_5 a0_6 a0_7 = some (r1, r2)) :
  Calls Tryz.prog 18 #[.agg #[.int .i64 a0_0, .string a0_1, .string a0_2, .string a0_3, .string a0_4, .int .i64 a0_5, .int .i64 a0_6, .int .i64 a0_7]] w fun e w' => e = .returned (.tuple #[.string r1, .bool r2]) ∧ Below w.heap.size w w' := by
 have hu34 := Tryz.underlying34
 have HB := am (Below.refl w.heap.size w)
 have H : (if a0_0 ≥ 1 then (if a0_0 ≤ 5 then (some (a0_1, true)) else (some ((⟨#[]⟩ : ByteArray), false))) else (some ((⟨#[]⟩ : ByteArray), false))) = some (r1, r2) := h
 clear h
 by_cases c2 : a0_0 ≥ 1
 ·rw [if_pos c2] at H
  have c2b0 : decide (1 ≤ a0_0) = true := decide_eq_true c2
  clear c2
  by_cases c3 : a0_0 ≤ 5
  ·rw [if_pos c3] at H
   have c3b0 : decide (a0_0 ≤ 5) = true := decide_eq_true c3
   clear c3
   simp only [Option.some.injEq, Prod.mk.injEq] at H
   obtain ⟨rfl, rfl⟩ := H
   go_enter Tryz.func18, Tryz.ntmps18
   go_wp2_with (first | ((with_reducible refine gate_dst (N := 1) rfl ?_); refine box_event ?hg (N := 1) ?hd (cs := #[.int .i64 a0_0, .string a0_1, .string a0_2, .string a0_3, .string a0_4, .int .i64 a0_5, .int .i64 a0_6, .int .i64 a0_7]) (t := 34) ?hr ?_; (case hd => rfl); (case hg => rfl); (case hr => first | (go_simp; done) | (go_simp; rfl)); intro gb101 hg w4 hbox hb; have BK101 := am (hbox); have GW101 := am (gw_ hg HB.out); have GE101 := GW101; replace HB := am (bs_ HB.out hb); clear hb hbox hg; obtain ⟨hcz5_0, hcz5_1, hcz5_2, hcz5_3, hcz5_4, hcz5_5, hcz5_6, hcz5_7, hfz5_0, hfz5_1, hfz5_2, hfz5_3, hfz5_4, hfz5_5, hfz5_6, hfz5_7⟩ := bc8 BK101.out))
   go_ret2
   exact ⟨er_, pL HB.out⟩
  rw [if_neg c3] at H
  have c3b0 : decide (a0_0 ≤ 5) = false := decide_eq_false c3
  clear c3
  simp only [Option.some.injEq, Prod.mk.injEq] at H
  obtain ⟨rfl, rfl⟩ := H
  go_enter Tryz.func18, Tryz.ntmps18
  go_wp2_with (first | ((with_reducible refine gate_dst (N := 1) rfl ?_); refine box_event ?hg (N := 1) ?hd (cs := #[.int .i64 a0_0, .string a0_1, .string a0_2, .string a0_3, .string a0_4, .int .i64 a0_5, .int .i64 a0_6, .int .i64 a0_7]) (t := 34) ?hr ?_; (case hd => rfl); (case hg => rfl); (case hr => first | (go_simp; done) | (go_simp; rfl)); intro gb101 hg w6 hbox hb; have BK101 := am (hbox); have GW101 := am (gw_ hg HB.out); have GE101 := GW101; replace HB := am (bs_ HB.out hb); clear hb hbox hg; obtain ⟨hcz7_0, hcz7_1, hcz7_2, hcz7_3, hcz7_4, hcz7_5, hcz7_6, hcz7_7, hfz7_0, hfz7_1, hfz7_2, hfz7_3, hfz7_4, hfz7_5, hfz7_6, hfz7_7⟩ := bc8 BK101.out))
  go_ret2
  exact ⟨er_, pL HB.out⟩
 rw [if_neg c2] at H
 have c2b0 : decide (1 ≤ a0_0) = false := decide_eq_false c2
 clear c2
 simp only [Option.some.injEq, Prod.mk.injEq] at H
 obtain ⟨rfl, rfl⟩ := H
 go_enter Tryz.func18, Tryz.ntmps18
 go_wp2_with (first | ((with_reducible refine gate_dst (N := 1) rfl ?_); refine box_event ?hg (N := 1) ?hd (cs := #[.int .i64 a0_0, .string a0_1, .string a0_2, .string a0_3, .string a0_4, .int .i64 a0_5, .int .i64 a0_6, .int .i64 a0_7]) (t := 34) ?hr ?_; (case hd => rfl); (case hg => rfl); (case hr => first | (go_simp; done) | (go_simp; rfl)); intro gb101 hg w8 hbox hb; have BK101 := am (hbox); have GW101 := am (gw_ hg HB.out); have GE101 := GW101; replace HB := am (bs_ HB.out hb); clear hb hbox hg; obtain ⟨hcz9_0, hcz9_1, hcz9_2, hcz9_3, hcz9_4, hcz9_5, hcz9_6, hcz9_7, hfz9_0, hfz9_1, hfz9_2, hfz9_3, hfz9_4, hfz9_5, hfz9_6, hfz9_7⟩ := bc8 BK101.out))
 go_ret2
 exact ⟨er_, pL HB.out⟩
end Go.Proofs.YtoekfmdcplphmaaGreat.H
/- the document's answers for layer 20, in plain words: where a statement leads, what it defines and uses -/
namespace Go.Proofs.YtoekfmdcplphmaaGreat.H
open Go.RowKit Go.Proofs.YtoekfmdcplphmaaGreatW.PrintWords
theorem mem_nxt {s : List Stmt} {n m : Int} : m ∈ nxt s n ↔ (0 ≤ n ∧ n < (s.length : Int)) ∧ (0 ≤ m ∧ m < (s.length : Int)) ∧ m ∈ nxtRaw (at_ s n) n := by
  unfold nxt
  split
  · rename_i h
    rw [List.mem_filter]
    simp [withinB, h, and_comm]
  · rename_i h
    simp [h]
theorem mem_raw {st : Stmt} {n m : Int} : m ∈ nxtRaw st n ↔ if st.kind = 7 then m = st.a ∨ m = st.b else if st.kind = 8 then m = st.a else if st.kind = 9 then False else m = wrap64 (n + 1) := by
  unfold nxtRaw srtI2
  repeat' split
  all_goals simp_all
  all_goals omega
theorem Leads_ev (s : List Stmt) (n m : Int) : Ev (fun k => lambrequinref20_Leads.f k s n m) (decide (m ∈ nxt s n)) := by
  unfold lambrequinref20_Leads.f
  have no : ¬ m ∈ nxt s n → Ev (fun k => lambrequinref20_Leads.j0 k s n m true) (decide (m ∈ nxt s n)) := fun h =>
    Ev.step (fun k => by rw [lambrequinref20_Leads.j0]) (Ev.pos rfl (Ev.some (by simp [h])))
  by_cases c1 : n < 0
  · exact Ev.pos c1 (no (by rw [mem_nxt]; omega))
  · refine Ev.neg c1 ?_
    by_cases c2 : n ≥ (s.length : Int)
    · exact Ev.pos c2 (no (by rw [mem_nxt]; omega))
    · refine Ev.neg c2 ?_
      by_cases c3 : m < 0
      · exact Ev.pos c3 (no (by rw [mem_nxt]; omega))
      · refine Ev.neg c3 ?_
        by_cases c4 : m ≥ (s.length : Int)
        · rw [decide_eq_true c4]; exact no (by rw [mem_nxt]; omega)
        · rw [decide_eq_false c4]
          have e : m ∈ nxt s n ↔ m ∈ nxtRaw (at_ s n) n := by rw [mem_nxt]; exact ⟨fun h => h.2.2, fun h => ⟨by omega, by omega, h⟩⟩
          rw [mem_raw] at e
          refine Ev.step (fun k => by rw [lambrequinref20_Leads.j0]) ?_
          refine Ev.neg (by simp) (Ev.pos (by omega) (Ev.pos (by omega) ?_))
          change Ev (fun k => if (at_ s n).kind = 7 then if m = (at_ s n).a then some true else some (m == (at_ s n).b) else if (at_ s n).kind = 8 then some (m == (at_ s n).a) else if (at_ s n).kind = 9 then some false else some (m == wrap64 (n + 1))) _
          by_cases k7 : (at_ s n).kind = 7
          · rw [if_pos k7] at e
            refine Ev.pos k7 ?_
            by_cases ca : m = (at_ s n).a
            · exact Ev.pos ca (Ev.some (decide_eq_true (e.2 (.inl ca))).symm)
            · refine Ev.neg ca (Ev.some ?_)
              rw [Bool.eq_iff_iff, decide_eq_true_iff, e]; simp [ca]
          · rw [if_neg k7] at e
            refine Ev.neg k7 ?_
            by_cases k8 : (at_ s n).kind = 8
            · rw [if_pos k8] at e
              exact Ev.pos k8 (Ev.some (by rw [Bool.eq_iff_iff, decide_eq_true_iff, e]; simp))
            · rw [if_neg k8] at e
              refine Ev.neg k8 ?_
              by_cases k9 : (at_ s n).kind = 9
              · rw [if_pos k9] at e
                exact Ev.pos k9 (Ev.some (by rw [Bool.eq_iff_iff, decide_eq_true_iff, e]; simp))
              · rw [if_neg k9] at e
                exact Ev.neg k9 (Ev.some (by rw [Bool.eq_iff_iff, decide_eq_true_iff, e]; simp))
theorem rDef_eq (st : Stmt) : lambrequinref20_Def.f st.kind st.x st.y st.z st.op st.n st.a st.b = some (defN st) := by
  unfold lambrequinref20_Def.f defN
  repeat' split
  all_goals first | rfl | (exfalso; omega)
theorem rUses_ev (st : Stmt) : Ev (fun k => lambrequinref20_Uses.f k st.kind st.x st.y st.z st.op st.n st.a st.b) (usesS st) := by
  unfold lambrequinref20_Uses.f usesS
  by_cases k2 : st.kind = 2
  · rw [if_pos k2]
    exact Ev.pos k2 (Ev.bind (Sorted_ev [st.y, st.z] (by simp)) (Ev.now _))
  · rw [if_neg k2]
    refine Ev.neg k2 ?_
    by_cases k3 : st.kind = 3
    · exact Ev.pos k3 (Ev.some (by rw [if_pos (.inl k3)]))
    · refine Ev.neg k3 ?_
      by_cases k5 : st.kind = 5
      · exact Ev.pos k5 (Ev.some (by rw [if_pos (.inr (.inl k5))]))
      · refine Ev.neg k5 ?_
        by_cases k6 : st.kind = 6
        · exact Ev.pos k6 (Ev.some (by rw [if_pos (.inr (.inr (.inl k6)))]))
        · refine Ev.neg k6 ?_
          by_cases k7 : st.kind = 7
          · exact Ev.pos k7 (Ev.some (by rw [if_pos (.inr (.inr (.inr k7)))]))
          · exact Ev.neg k7 (Ev.some (by rw [if_neg (by omega)]))
end Go.Proofs.YtoekfmdcplphmaaGreat.H
namespace Go.Proofs.YtoekfmdcplphmaaGreat.H
open Go.RowKit Go.Proofs.YtoekfmdcplphmaaGreatW.PrintWords Go.Proofs.YtoekfmdcplphmaaGreatW.PrintLast Go.Proofs.YtoekfmdcplphmaaGreatW.PrintMore
attribute [local go_sem] max2_int min2_int max_two min_two max_three min_three max_four min_four
def lambrequinref21_num.f (a0 : Int) : Option (Bool × ByteArray × Int) := some (false, (⟨#[]⟩ : ByteArray), a0)
set_option maxHeartbeats 8000000 in
set_option maxRecDepth 100000 in
theorem lambrequinref21_num.calls (a0 : Int) (r1 : Bool) (r2 : ByteArray) (r3 : Int) (w : World) (h : lambrequinref21_num.f a0 = some (r1, r2, r3)) :
  Calls Tryz.prog 15 #[.int .i64 a0] w fun e w' => e = .returned (.agg #[.bool r1, .string r2, .int .i64 r3]) ∧ Below w.heap.size w w' := by
 have hu36 := Tryz.underlying36
 have HB := am (Below.refl w.heap.size w)
 have H : (some (false, (⟨#[]⟩ : ByteArray), a0)) = some (r1, r2, r3) := h
 clear h
 simp only [Option.some.injEq, Prod.mk.injEq] at H
 obtain ⟨rfl, rfl, rfl⟩ := H
 go_enter Tryz.func15, Tryz.ntmps15
 go_wp2_with (first | ((with_reducible refine gate_dst (N := 2) rfl ?_); refine box_event ?hg (N := 2) ?hd (cs := #[.bool false, .string (⟨#[]⟩ : ByteArray), .int .i64 0]) (t := 36) ?hr ?_; (case hd => rfl); (case hg => rfl); (case hr => first | (go_simp; done) | (go_simp; rfl)); intro gb101 hg w2 hbox hb; have BK101 := am (hbox); have GW101 := am (gw_ hg HB.out); have GE101 := GW101; replace HB := am (bs_ HB.out hb); clear hb hbox hg; obtain ⟨hcz3_0, hcz3_1, hcz3_2, hfz3_0, hfz3_1, hfz3_2⟩ := bc3 BK101.out))
 refine bodyPost_ret (results_cell_row rfl _ _ gb101 36 #[.bool false, .string (⟨#[]⟩ : ByteArray), .int .i64 a0] (0, 0) _ rfl (by (with_reducible repeat (first | refine bN ?_ _ | refine bD ?_ | refine bA ?_ _)); exact bq3 BK101.out) Tryz.underlying36 rfl (by kernel_rfl)) rfl ?_
 exact ⟨er_, pL HB.out⟩
def lambrequinref21_sym.f (a0 : ByteArray) : Option (Bool × ByteArray × Int) := some (true, a0, 0)
set_option maxHeartbeats 8000000 in
set_option maxRecDepth 100000 in
theorem lambrequinref21_sym.calls (a0 : ByteArray) (r1 : Bool) (r2 : ByteArray) (r3 : Int) (w : World) (h : lambrequinref21_sym.f a0 = some (r1, r2, r3)) :
  Calls Tryz.prog 19 #[.string a0] w fun e w' => e = .returned (.agg #[.bool r1, .string r2, .int .i64 r3]) ∧ Below w.heap.size w w' := by
 have hu36 := Tryz.underlying36
 have HB := am (Below.refl w.heap.size w)
 have H : (some (true, a0, 0)) = some (r1, r2, r3) := h
 clear h
 simp only [Option.some.injEq, Prod.mk.injEq] at H
 obtain ⟨rfl, rfl, rfl⟩ := H
 go_enter Tryz.func19, Tryz.ntmps19
 go_wp2_with (first | ((with_reducible refine gate_dst (N := 2) rfl ?_); refine box_event ?hg (N := 2) ?hd (cs := #[.bool false, .string (⟨#[]⟩ : ByteArray), .int .i64 0]) (t := 36) ?hr ?_; (case hd => rfl); (case hg => rfl); (case hr => first | (go_simp; done) | (go_simp; rfl)); intro gb101 hg w2 hbox hb; have BK101 := am (hbox); have GW101 := am (gw_ hg HB.out); have GE101 := GW101; replace HB := am (bs_ HB.out hb); clear hb hbox hg; obtain ⟨hcz3_0, hcz3_1, hcz3_2, hfz3_0, hfz3_1, hfz3_2⟩ := bc3 BK101.out))
 refine bodyPost_ret (results_cell_row rfl _ _ gb101 36 #[.bool true, .string a0, .int .i64 0] (0, 0) _ rfl (by (with_reducible repeat (first | refine bN ?_ _ | refine bD ?_ | refine bA ?_ _)); exact bq3 BK101.out) Tryz.underlying36 rfl (by kernel_rfl)) rfl ?_
 exact ⟨er_, pL HB.out⟩
def lambrequinref21_Two.f (a0 : ByteArray) (a1_0 : Bool) (a1_1 : ByteArray) (a1_2 : Int) (a2_0 : Bool) (a2_1 : ByteArray) (a2_2 : Int) : Option (ByteArray × (List (Val))) := some (a0, (([(⟨a1_0, a1_1, a1_2⟩ : Val), (⟨a2_0, a2_1, a2_2⟩ : Val)] : List (Val))))
set_option maxHeartbeats 8000000 in
set_option maxRecDepth 100000 in
theorem lambrequinref21_Two.calls (a0 : ByteArray) (a1_0 : Bool) (a1_1 : ByteArray) (a1_2 : Int) (a2_0 : Bool) (a2_1 : ByteArray) (a2_2 : Int) (r1 : ByteArray) (r2 : List (Val)) (w : World) (h : lambrequinref21_Two.f a0 a1_0 a1_1 a1_2 a2_0 a2_1 a2_2 = some (r1, r2)) :
  Calls Tryz.prog 17 #[.string a0, .agg #[.bool a1_0, .string a1_1, .int .i64 a1_2], .agg #[.bool a2_0, .string a2_1, .int .i64 a2_2]] w fun e w' => ∃ v1_ : Value, e = .returned (.agg #[.string r1, v1_]) ∧ Kd.R k36 36 w' w.heap.size (fun _ => True) v1_ r2 ∧ Below w.heap.size w w' := by
 have hu36 := Tryz.underlying36
 have hu26 := Tryz.underlying26
 have HB := am (Below.refl w.heap.size w)
 have H : (some (a0, (([(⟨a1_0, a1_1, a1_2⟩ : Val), (⟨a2_0, a2_1, a2_2⟩ : Val)] : List (Val))))) = some (r1, r2) := h
 clear h
 obtain ⟨y104, hy104⟩ : ∃ y_ : List (Val), y_ = (([(⟨a1_0, a1_1, a1_2⟩ : Val), (⟨a2_0, a2_1, a2_2⟩ : Val)] : List (Val))) := ⟨_, rfl⟩
 replace H : (some (a0, y104)) = some (r1, r2) := by first | (rw [hy104]; with_reducible exact H) | (have H2_ := (Option.bind_some _ _).symm.trans H; rw [hy104]; with_reducible exact H2_) | (have H2_ := (Option.bind_some _ _).symm.trans H; with_reducible exact H2_) | with_reducible exact H | (rw [hy104]; exact H) | exact H
 have Ny104 := am hy104
 clear hy104
 simp only [Option.some.injEq, Prod.mk.injEq] at H
 obtain ⟨rfl, rfl⟩ := H
 go_enter Tryz.func17, Tryz.ntmps17
 go_wp2_with (first | ((with_reducible refine gate_dst (N := 4) rfl ?_); refine box_event ?hg (N := 4) ?hd (cs := #[.bool a1_0, .string a1_1, .int .i64 a1_2]) (t := 36) ?hr ?_; (case hd => rfl); (case hg => rfl); (case hr => first | (go_simp; done) | (go_simp; rfl)); intro gb101 hg w4 hbox hb; have BK101 := am (hbox); have GW101 := am (gw_ hg HB.out); have GE101 := GW101; replace HB := am (bs_ HB.out hb); clear hb hbox hg) | ((with_reducible refine gate_dst (N := 5) rfl ?_); refine box_event ?hg (N := 5) ?hd (cs := #[.bool a2_0, .string a2_1, .int .i64 a2_2]) (t := 36) ?hr ?_; (case hd => rfl); (case hg => rfl); (case hr => first | (go_simp; done) | (go_simp; rfl)); intro gb102 hg w5 hbox hb; have BK102 := am (hbox); have GW102 := am (gw_ hg HB.out); have GE102 := GW102; replace HB := am (bs_ HB.out hb); have NB101_102 := am (nb_ hg BK101.out); have NB102_101 := am NB101_102.out.symm; replace BK101 := am (bb_ BK101.out hb); clear hb hbox hg) | ((with_reducible refine gate_dst (N := 6) rfl ?_); refine box_event ?hg (N := 6) ?hd (cs := #[.string (⟨#[]⟩ : ByteArray), .slice none 0 0]) (t := 26) ?hr ?_; (case hd => rfl); (case hg => rfl); (case hr => first | (go_simp; done) | (go_simp; rfl)); intro gb103 hg w6 hbox hb; have BK103 := am (hbox); have GW103 := am (gw_ hg HB.out); have GE103 := GW103; replace HB := am (bs_ HB.out hb); have NB101_103 := am (nb_ hg BK101.out); have NB103_101 := am NB101_103.out.symm; replace BK101 := am (bb_ BK101.out hb); have NB102_103 := am (nb_ hg BK102.out); have NB103_102 := am NB102_103.out.symm; replace BK102 := am (bb_ BK102.out hb); clear hb hbox hg; have hnb7 := NB101_102.out; have hnc7 := NB102_101.out; have hnb8 := NB101_103.out; have hnc8 := NB103_101.out; obtain ⟨hcz9_0, hcz9_1, hcz9_2, hfz9_0, hfz9_1, hfz9_2⟩ := bc3 BK101.out; have hnb10 := NB102_103.out; have hnc10 := NB103_102.out; obtain ⟨hcz11_0, hcz11_1, hcz11_2, hfz11_0, hfz11_1, hfz11_2⟩ := bc3 BK102.out) | ((with_reducible refine gate_dst (N := 10) rfl ?_); refine Kd.R_lit k36 _ 36 ?hg (N := 10) ?hd (xs := ([(⟨a1_0, a1_1, a1_2⟩ : Val), (⟨a2_0, a2_1, a2_2⟩ : Val)] : List (Val))) (inner := [.bool a1_0, .string a1_1, .int .i64 a1_2, .bool a2_0, .string a2_1, .int .i64 a2_2]) (ok := fun _ => True) (okp := fun _ => True) ?hr ?hp (fun _ hk => hk) trivial (Below.refl _ _) (Nat.le_refl _) (by simp) ?_; (case hd => rfl); (case hg => rfl); (case hr => first | (go_simp; done) | (go_simp; rfl)); (case hp => exact (Reps.c3 (show Kd.M k36 _ _ _ (⟨a1_0, a1_1, a1_2⟩ : Val) [.bool a1_0, .string a1_1, .int .i64 a1_2] from (k36_mkM _ _ _ (⟨a1_0, a1_1, a1_2⟩ : Val) )) (Reps.c3 (show Kd.M k36 _ _ _ (⟨a2_0, a2_1, a2_2⟩ : Val) [.bool a2_0, .string a2_1, .int .i64 a2_2] from (k36_mkM _ _ _ (⟨a2_0, a2_1, a2_2⟩ : Val) )) (Reps.none _ _)))); intro v105 w12 ho13 hb hg_ hnew_; clear hg_ hnew_; (first | rw [← Ny104.out] at ho13 | (simp only [Int.reduceToNat] at ho13; rw [← Ny104.out] at ho13)); have HO106 := am (Kd.R_lower (Kd.R_newB (Kd.R_newB ho13 (g := gb101) (o := .cells #[.bool a1_0, .string a1_1, .int .i64 a1_2] 36 (0, 0)) (pB BK101.out)) (g := gb102) (o := .cells #[.bool a2_0, .string a2_1, .int .i64 a2_2] 36 (0, 0)) (pB BK102.out)) (below_size (pL HB.out))); replace BK101 := am (bb_ BK101.out hb); replace BK102 := am (bb_ BK102.out hb); replace BK103 := am (bb_ BK103.out hb); replace HB := am (bs_ HB.out hb); clear hb ho13; obtain ⟨Ao14, co14, eo14⟩ := Kd.R_slice HO106.out; subst eo14; obtain ⟨hcz15_0, hcz15_1, hfz15_0, hfz15_1⟩ := bc2 BK103.out))
 refine bodyPost_ret (results_cell_row rfl _ _ gb103 26 #[.string a0, .slice Ao14 y104.length co14] (0, 0) _ rfl (by (with_reducible repeat (first | refine bN ?_ _ | refine bD ?_ | refine bA ?_ _)); exact bq2 BK103.out) Tryz.underlying26 rfl (by kernel_rfl)) rfl ?_
 exact ⟨_, er_, by (with_reducible repeat (first | apply Ra | apply Rn | apply Rd)); exact Kd.R_mono (Rf (Rf (Kd.R_types HO106.out BK103.out (by decide)))) (fun _ hk => trivial), pL HB.out⟩
mutual
def lambrequinref21_Of.l0 : Nat → List (Stmt) → List (Fact) → Int → Option ((List (Fact)))
 | 0, _, _, _ => none
 | k + 1, x0, x3, x4 => if x4 < (x0.length : Int) then (if 0 ≤ x4 then ((lambrequinref21_num.f x4).bind fun bt106 => (if x3.length < 3518437208883 then (lambrequinref21_Of.l1 k x0 (x3 ++ [(⟨(⟨#[110, 111, 100, 101]⟩ : ByteArray), (([(⟨bt106.1, bt106.2.1, bt106.2.2⟩ : Val)] : List (Val)))⟩ : Fact)]) x4 0 ((rd_T34 x0 x4).kind) ((rd_T34 x0 x4).x) ((rd_T34 x0 x4).y) ((rd_T34 x0 x4).z) ((rd_T34 x0 x4).op) ((rd_T34 x0 x4).n) ((rd_T34 x0 x4).a) ((rd_T34 x0 x4).b)) else (none))) else (none)) else ((lambrequinref14_Sort.f k x3).bind fun t101 => (some t101))
def lambrequinref21_Of.l1 : Nat → List (Stmt) → List (Fact) → Int → Int → Int → ByteArray → ByteArray → ByteArray → ByteArray → Int → Int → Int → Option ((List (Fact)))
 | 0, _, _, _, _, _, _, _, _, _, _, _, _ => none
 | k + 1, x0, x3, x4, x6, x106000, x106001, x106002, x106003, x106004, x106005, x106006, x106007 => if x6 < (x0.length : Int) then ((lambrequinref20_Leads.f k x0 x4 x6).bind fun t115 => (if t115 = true then ((lambrequinref21_num.f x4).bind fun bt116 => ((lambrequinref21_num.f x6).bind fun bt119 => ((lambrequinref21_Two.f (⟨#[110, 101, 120, 116]⟩ : ByteArray) bt116.1 bt116.2.1 bt116.2.2 bt119.1 bt119.2.1 bt119.2.2).bind fun bt122 => (if x3.length < 3518437208883 then (lambrequinref21_Of.l1 k x0 (x3 ++ [(⟨bt122.1, bt122.2⟩ : Fact)]) x4 (wrap64 (x6 + 1)) x106000 x106001 x106002 x106003 x106004 x106005 x106006 x106007) else (none))))) else (lambrequinref21_Of.l1 k x0 x3 x4 (wrap64 (x6 + 1)) x106000 x106001 x106002 x106003 x106004 x106005 x106006 x106007))) else ((lambrequinref20_Def.f x106000 x106001 x106002 x106003 x106004 x106005 x106006 x106007).bind fun bt129 => (if bt129.2 = true then ((lambrequinref21_num.f x4).bind fun bt131 => ((lambrequinref21_sym.f bt129.1).bind fun bt134 => ((lambrequinref21_Two.f (⟨#[100, 101, 102]⟩ : ByteArray) bt131.1 bt131.2.1 bt131.2.2 bt134.1 bt134.2.1 bt134.2.2).bind fun bt137 => (if x3.length < 3518437208883 then (lambrequinref21_Of.j2 k x0 (x3 ++ [(⟨bt137.1, bt137.2⟩ : Fact)]) x4 bt129.1 x106000 x106001 x106002 x106003 x106004 x106005 x106006 x106007) else (none))))) else (lambrequinref21_Of.j2 k x0 x3 x4 bt129.1 x106000 x106001 x106002 x106003 x106004 x106005 x106006 x106007)))
def lambrequinref21_Of.j2 : Nat → List (Stmt) → List (Fact) → Int → ByteArray → Int → ByteArray → ByteArray → ByteArray → ByteArray → Int → Int → Int → Option ((List (Fact)))
 | 0, _, _, _, _, _, _, _, _, _, _, _, _ => none
 | k + 1, x0, x3, x4, x7, x106000, x106001, x106002, x106003, x106004, x106005, x106006, x106007 => if x106000 = 4 then ((lambrequinref21_num.f x4).bind fun bt144 => ((lambrequinref21_sym.f x7).bind fun bt147 => ((lambrequinref21_Two.f (⟨#[115, 111, 117, 114, 99, 101]⟩ : ByteArray) bt144.1 bt144.2.1 bt144.2.2 bt147.1 bt147.2.1 bt147.2.2).bind fun bt150 => (if x3.length < 3518437208883 then (lambrequinref21_Of.j3 k x0 (x3 ++ [(⟨bt150.1, bt150.2⟩ : Fact)]) x4 x7 x106000 x106001 x106002 x106003 x106004 x106005 x106006 x106007) else (none))))) else (lambrequinref21_Of.j3 k x0 x3 x4 x7 x106000 x106001 x106002 x106003 x106004 x106005 x106006 x106007)
def lambrequinref21_Of.j3 : Nat → List (Stmt) → List (Fact) → Int → ByteArray → Int → ByteArray → ByteArray → ByteArray → ByteArray → Int → Int → Int → Option ((List (Fact)))
 | 0, _, _, _, _, _, _, _, _, _, _, _, _ => none
 | k + 1, x0, x3, x4, x7, x106000, x106001, x106002, x106003, x106004, x106005, x106006, x106007 => (lambrequinref20_Uses.f k x106000 x106001 x106002 x106003 x106004 x106005 x106006 x106007).bind fun t157 => (lambrequinref21_Of.l2 k x0 x3 x4 x7 t157 0 x106000 x106001 x106002 x106003 x106004 x106005 x106006 x106007)
def lambrequinref21_Of.l2 : Nat → List (Stmt) → List (Fact) → Int → ByteArray → List ByteArray → Int → Int → ByteArray → ByteArray → ByteArray → ByteArray → Int → Int → Int → Option ((List (Fact)))
 | 0, _, _, _, _, _, _, _, _, _, _, _, _, _, _ => none
 | k + 1, x0, x3, x4, x7, x9, x10, x106000, x106001, x106002, x106003, x106004, x106005, x106006, x106007 => if x10 < (x9.length : Int) then ((lambrequinref21_num.f x4).bind fun bt160 => (if 0 ≤ x10 then ((lambrequinref21_sym.f (rdOf ByteArray.empty x9 x10)).bind fun bt164 => ((lambrequinref21_Two.f (⟨#[117, 115, 101]⟩ : ByteArray) bt160.1 bt160.2.1 bt160.2.2 bt164.1 bt164.2.1 bt164.2.2).bind fun bt167 => (if x3.length < 3518437208883 then ((some (x3 ++ [(⟨bt167.1, bt167.2⟩ : Fact)] : List (Fact))).bind fun y171 => (if x106000 = 6 then ((lambrequinref21_num.f x4).bind fun bt174 => ((lambrequinref21_sym.f (rdOf ByteArray.empty x9 x10)).bind fun bt178 => ((lambrequinref21_Two.f (⟨#[115, 105, 110, 107]⟩ : ByteArray) bt174.1 bt174.2.1 bt174.2.2 bt178.1 bt178.2.1 bt178.2.2).bind fun bt181 => (if y171.length < 3518437208883 then (lambrequinref21_Of.j5 k x0 (y171 ++ [(⟨bt181.1, bt181.2⟩ : Fact)]) x4 x7 x9 x10 x106000 x106001 x106002 x106003 x106004 x106005 x106006 x106007) else (none))))) else (lambrequinref21_Of.j5 k x0 y171 x4 x7 x9 x10 x106000 x106001 x106002 x106003 x106004 x106005 x106006 x106007))) else (none)))) else (none))) else (lambrequinref21_Of.l0 k x0 x3 (wrap64 (x4 + 1)))
def lambrequinref21_Of.j5 : Nat → List (Stmt) → List (Fact) → Int → ByteArray → List ByteArray → Int → Int → ByteArray → ByteArray → ByteArray → ByteArray → Int → Int → Int → Option ((List (Fact)))
 | 0, _, _, _, _, _, _, _, _, _, _, _, _, _, _ => none
 | k + 1, x0, x3, x4, x7, x9, x10, x106000, x106001, x106002, x106003, x106004, x106005, x106006, x106007 => if x106000 = 2 then (lambrequinref21_Of.j6 k x0 x3 x4 x7 x9 x10 true x106000 x106001 x106002 x106003 x106004 x106005 x106006 x106007) else (lambrequinref21_Of.j6 k x0 x3 x4 x7 x9 x10 (x106000 == 3) x106000 x106001 x106002 x106003 x106004 x106005 x106006 x106007)
def lambrequinref21_Of.j6 : Nat → List (Stmt) → List (Fact) → Int → ByteArray → List ByteArray → Int → Bool → Int → ByteArray → ByteArray → ByteArray → ByteArray → Int → Int → Int → Option ((List (Fact)))
 | 0, _, _, _, _, _, _, _, _, _, _, _, _, _, _, _ => none
 | k + 1, x0, x3, x4, x7, x9, x10, x111, x106000, x106001, x106002, x106003, x106004, x106005, x106006, x106007 => if x111 = true then ((lambrequinref21_num.f x4).bind fun bt188 => ((lambrequinref21_sym.f x7).bind fun bt191 => (if 0 ≤ x10 then (if x10 < (x9.length : Int) then ((lambrequinref21_sym.f (rdOf ByteArray.empty x9 x10)).bind fun bt195 => (if x3.length < 3518437208883 then (lambrequinref21_Of.l2 k x0 (x3 ++ [(⟨(⟨#[102, 108, 111, 119]⟩ : ByteArray), (([(⟨bt188.1, bt188.2.1, bt188.2.2⟩ : Val), (⟨bt191.1, bt191.2.1, bt191.2.2⟩ : Val), (⟨bt195.1, bt195.2.1, bt195.2.2⟩ : Val)] : List (Val)))⟩ : Fact)]) x4 x7 x9 (wrap64 (x10 + 1)) x106000 x106001 x106002 x106003 x106004 x106005 x106006 x106007) else (none))) else (none)) else (none)))) else (lambrequinref21_Of.l2 k x0 x3 x4 x7 x9 (wrap64 (x10 + 1)) x106000 x106001 x106002 x106003 x106004 x106005 x106006 x106007)
end
def lambrequinref21_Of.f (k : Nat) (l0 : List (Stmt)) : Option ((List (Fact))) := lambrequinref21_Of.l0 k l0 ([] : List (Fact)) 0
theorem lambrequinref21_Of.mono_l : ∀ k, (∀ y0 y1 y2, LeO (lambrequinref21_Of.l0 k y0 y1 y2) (lambrequinref21_Of.l0 (k + 1) y0 y1 y2)) ∧ (∀ y0 y1 y2 y3 y4 y5 y6 y7 y8 y9 y10 y11, LeO (lambrequinref21_Of.l1 k y0 y1 y2 y3 y4 y5 y6 y7 y8 y9 y10 y11) (lambrequinref21_Of.l1 (k + 1) y0 y1 y2 y3 y4 y5 y6 y7 y8 y9 y10 y11)) ∧ (∀ y0 y1 y2 y3 y4 y5 y6 y7 y8 y9 y10 y11, LeO (lambrequinref21_Of.j2 k y0 y1 y2 y3 y4 y5 y6 y7 y8 y9 y10 y11) (lambrequinref21_Of.j2 (k + 1) y0 y1 y2 y3 y4 y5 y6 y7 y8 y9 y10 y11)) ∧ (∀ y0 y1 y2 y3 y4 y5 y6 y7 y8 y9 y10 y11, LeO (lambrequinref21_Of.j3 k y0 y1 y2 y3 y4 y5 y6 y7 y8 y9 y10 y11) (lambrequinref21_Of.j3 (k + 1) y0 y1 y2 y3 y4 y5 y6 y7 y8 y9 y10 y11)) ∧ (∀ y0 y1 y2 y3 y4 y5 y6 y7 y8 y9 y10 y11 y12 y13, LeO (lambrequinref21_Of.l2 k y0 y1 y2 y3 y4 y5 y6 y7 y8 y9 y10 y11 y12 y13) (lambrequinref21_Of.l2 (k + 1) y0 y1 y2 y3 y4 y5 y6 y7 y8 y9 y10 y11 y12 y13)) ∧ (∀ y0 y1 y2 y3 y4 y5 y6 y7 y8 y9 y10 y11 y12 y13, LeO (lambrequinref21_Of.j5 k y0 y1 y2 y3 y4 y5 y6 y7 y8 y9 y10 y11 y12 y13) (lambrequinref21_Of.j5 (k + 1) y0 y1 y2 y3 y4 y5 y6 y7 y8 y9 y10 y11 y12 y13)) ∧ (∀ y0 y1 y2 y3 y4 y5 y6 y7 y8 y9 y10 y11 y12 y13 y14, LeO (lambrequinref21_Of.j6 k y0 y1 y2 y3 y4 y5 y6 y7 y8 y9 y10 y11 y12 y13 y14) (lambrequinref21_Of.j6 (k + 1) y0 y1 y2 y3 y4 y5 y6 y7 y8 y9 y10 y11 y12 y13 y14))
 | 0 => ⟨fun _ _ _ r h => by simp [lambrequinref21_Of.l0] at h, fun _ _ _ _ _ _ _ _ _ _ _ _ r h => by simp [lambrequinref21_Of.l1] at h, fun _ _ _ _ _ _ _ _ _ _ _ _ r h => by simp [lambrequinref21_Of.j2] at h, fun _ _ _ _ _ _ _ _ _ _ _ _ r h => by simp [lambrequinref21_Of.j3] at h, fun _ _ _ _ _ _ _ _ _ _ _ _ _ _ r h => by simp [lambrequinref21_Of.l2] at h, fun _ _ _ _ _ _ _ _ _ _ _ _ _ _ r h => by simp [lambrequinref21_Of.j5] at h, fun _ _ _ _ _ _ _ _ _ _ _ _ _ _ _ r h => by simp [lambrequinref21_Of.j6] at h⟩
 | k + 1 => by
  obtain ⟨ih0, ih1, ih2, ih3, ih4, ih5, ih6⟩ := lambrequinref21_Of.mono_l k
  refine ⟨?_, ?_, ?_, ?_, ?_, ?_, ?_⟩
  ·intro y0 y1 y2
   unfold lambrequinref21_Of.l0
   repeat' first
   | (with_reducible exact ih0 _ _ _)
   | (with_reducible exact ih1 _ _ _ _ _ _ _ _ _ _ _ _)
   | (with_reducible exact ih2 _ _ _ _ _ _ _ _ _ _ _ _)
   | (with_reducible exact ih3 _ _ _ _ _ _ _ _ _ _ _ _)
   | (with_reducible exact ih4 _ _ _ _ _ _ _ _ _ _ _ _ _ _)
   | (with_reducible exact ih5 _ _ _ _ _ _ _ _ _ _ _ _ _ _)
   | (with_reducible exact ih6 _ _ _ _ _ _ _ _ _ _ _ _ _ _ _)
   | (with_reducible exact lambrequinref14_Sort.mono _ _)
   | (with_reducible exact lambrequinref20_Leads.mono _ _ _ _)
   | (with_reducible exact lambrequinref20_Uses.mono _ _ _ _ _ _ _ _ _)
   | (with_reducible exact LeO.refl _)
   | (with_reducible exact LeO.none _)
   | (with_reducible refine LeO.ite ?_ ?_)
   | (with_reducible refine LeO.bind ?_ (fun _ => ?_))
   | exact ih0 _ _ _
   | exact ih1 _ _ _ _ _ _ _ _ _ _ _ _
   | exact ih2 _ _ _ _ _ _ _ _ _ _ _ _
   | exact ih3 _ _ _ _ _ _ _ _ _ _ _ _
   | exact ih4 _ _ _ _ _ _ _ _ _ _ _ _ _ _
   | exact ih5 _ _ _ _ _ _ _ _ _ _ _ _ _ _
   | exact ih6 _ _ _ _ _ _ _ _ _ _ _ _ _ _ _
   | exact lambrequinref14_Sort.mono _ _
   | exact lambrequinref20_Leads.mono _ _ _ _
   | exact lambrequinref20_Uses.mono _ _ _ _ _ _ _ _ _
   | exact LeO.none _
   | refine LeO.ite ?_ ?_
   | refine LeO.bind ?_ (fun _ => ?_)
  ·intro y0 y1 y2 y3 y4 y5 y6 y7 y8 y9 y10 y11
   unfold lambrequinref21_Of.l1
   repeat' first
   | (with_reducible exact ih0 _ _ _)
   | (with_reducible exact ih1 _ _ _ _ _ _ _ _ _ _ _ _)
   | (with_reducible exact ih2 _ _ _ _ _ _ _ _ _ _ _ _)
   | (with_reducible exact ih3 _ _ _ _ _ _ _ _ _ _ _ _)
   | (with_reducible exact ih4 _ _ _ _ _ _ _ _ _ _ _ _ _ _)
   | (with_reducible exact ih5 _ _ _ _ _ _ _ _ _ _ _ _ _ _)
   | (with_reducible exact ih6 _ _ _ _ _ _ _ _ _ _ _ _ _ _ _)
   | (with_reducible exact lambrequinref14_Sort.mono _ _)
   | (with_reducible exact lambrequinref20_Leads.mono _ _ _ _)
   | (with_reducible exact lambrequinref20_Uses.mono _ _ _ _ _ _ _ _ _)
   | (with_reducible exact LeO.refl _)
   | (with_reducible exact LeO.none _)
   | (with_reducible refine LeO.ite ?_ ?_)
   | (with_reducible refine LeO.bind ?_ (fun _ => ?_))
   | exact ih0 _ _ _
   | exact ih1 _ _ _ _ _ _ _ _ _ _ _ _
   | exact ih2 _ _ _ _ _ _ _ _ _ _ _ _
   | exact ih3 _ _ _ _ _ _ _ _ _ _ _ _
   | exact ih4 _ _ _ _ _ _ _ _ _ _ _ _ _ _
   | exact ih5 _ _ _ _ _ _ _ _ _ _ _ _ _ _
   | exact ih6 _ _ _ _ _ _ _ _ _ _ _ _ _ _ _
   | exact lambrequinref14_Sort.mono _ _
   | exact lambrequinref20_Leads.mono _ _ _ _
   | exact lambrequinref20_Uses.mono _ _ _ _ _ _ _ _ _
   | exact LeO.none _
   | refine LeO.ite ?_ ?_
   | refine LeO.bind ?_ (fun _ => ?_)
  ·intro y0 y1 y2 y3 y4 y5 y6 y7 y8 y9 y10 y11
   unfold lambrequinref21_Of.j2
   repeat' first
   | (with_reducible exact ih0 _ _ _)
   | (with_reducible exact ih1 _ _ _ _ _ _ _ _ _ _ _ _)
   | (with_reducible exact ih2 _ _ _ _ _ _ _ _ _ _ _ _)
   | (with_reducible exact ih3 _ _ _ _ _ _ _ _ _ _ _ _)
   | (with_reducible exact ih4 _ _ _ _ _ _ _ _ _ _ _ _ _ _)
   | (with_reducible exact ih5 _ _ _ _ _ _ _ _ _ _ _ _ _ _)
   | (with_reducible exact ih6 _ _ _ _ _ _ _ _ _ _ _ _ _ _ _)
   | (with_reducible exact lambrequinref14_Sort.mono _ _)
   | (with_reducible exact lambrequinref20_Leads.mono _ _ _ _)
   | (with_reducible exact lambrequinref20_Uses.mono _ _ _ _ _ _ _ _ _)
   | (with_reducible exact LeO.refl _)
   | (with_reducible exact LeO.none _)
   | (with_reducible refine LeO.ite ?_ ?_)
   | (with_reducible refine LeO.bind ?_ (fun _ => ?_))
   | exact ih0 _ _ _
   | exact ih1 _ _ _ _ _ _ _ _ _ _ _ _
   | exact ih2 _ _ _ _ _ _ _ _ _ _ _ _
   | exact ih3 _ _ _ _ _ _ _ _ _ _ _ _
   | exact ih4 _ _ _ _ _ _ _ _ _ _ _ _ _ _
   | exact ih5 _ _ _ _ _ _ _ _ _ _ _ _ _ _
   | exact ih6 _ _ _ _ _ _ _ _ _ _ _ _ _ _ _
   | exact lambrequinref14_Sort.mono _ _
   | exact lambrequinref20_Leads.mono _ _ _ _
   | exact lambrequinref20_Uses.mono _ _ _ _ _ _ _ _ _
   | exact LeO.none _
   | refine LeO.ite ?_ ?_
   | refine LeO.bind ?_ (fun _ => ?_)
  ·intro y0 y1 y2 y3 y4 y5 y6 y7 y8 y9 y10 y11
   unfold lambrequinref21_Of.j3
   repeat' first
   | (with_reducible exact ih0 _ _ _)
   | (with_reducible exact ih1 _ _ _ _ _ _ _ _ _ _ _ _)
   | (with_reducible exact ih2 _ _ _ _ _ _ _ _ _ _ _ _)
   | (with_reducible exact ih3 _ _ _ _ _ _ _ _ _ _ _ _)
   | (with_reducible exact ih4 _ _ _ _ _ _ _ _ _ _ _ _ _ _)
   | (with_reducible exact ih5 _ _ _ _ _ _ _ _ _ _ _ _ _ _)
   | (with_reducible exact ih6 _ _ _ _ _ _ _ _ _ _ _ _ _ _ _)
   | (with_reducible exact lambrequinref14_Sort.mono _ _)
   | (with_reducible exact lambrequinref20_Leads.mono _ _ _ _)
   | (with_reducible exact lambrequinref20_Uses.mono _ _ _ _ _ _ _ _ _)
   | (with_reducible exact LeO.refl _)
   | (with_reducible exact LeO.none _)
   | (with_reducible refine LeO.ite ?_ ?_)
   | (with_reducible refine LeO.bind ?_ (fun _ => ?_))
   | exact ih0 _ _ _
   | exact ih1 _ _ _ _ _ _ _ _ _ _ _ _
   | exact ih2 _ _ _ _ _ _ _ _ _ _ _ _
   | exact ih3 _ _ _ _ _ _ _ _ _ _ _ _
   | exact ih4 _ _ _ _ _ _ _ _ _ _ _ _ _ _
   | exact ih5 _ _ _ _ _ _ _ _ _ _ _ _ _ _
   | exact ih6 _ _ _ _ _ _ _ _ _ _ _ _ _ _ _
   | exact lambrequinref14_Sort.mono _ _
   | exact lambrequinref20_Leads.mono _ _ _ _
   | exact lambrequinref20_Uses.mono _ _ _ _ _ _ _ _ _
   | exact LeO.none _
   | refine LeO.ite ?_ ?_
   | refine LeO.bind ?_ (fun _ => ?_)
  ·intro y0 y1 y2 y3 y4 y5 y6 y7 y8 y9 y10 y11 y12 y13
   unfold lambrequinref21_Of.l2
   repeat' first
   | (with_reducible exact ih0 _ _ _)
   | (with_reducible exact ih1 _ _ _ _ _ _ _ _ _ _ _ _)
   | (with_reducible exact ih2 _ _ _ _ _ _ _ _ _ _ _ _)
   | (with_reducible exact ih3 _ _ _ _ _ _ _ _ _ _ _ _)
   | (with_reducible exact ih4 _ _ _ _ _ _ _ _ _ _ _ _ _ _)
   | (with_reducible exact ih5 _ _ _ _ _ _ _ _ _ _ _ _ _ _)
   | (with_reducible exact ih6 _ _ _ _ _ _ _ _ _ _ _ _ _ _ _)
   | (with_reducible exact lambrequinref14_Sort.mono _ _)
   | (with_reducible exact lambrequinref20_Leads.mono _ _ _ _)
   | (with_reducible exact lambrequinref20_Uses.mono _ _ _ _ _ _ _ _ _)
   | (with_reducible exact LeO.refl _)
   | (with_reducible exact LeO.none _)
   | (with_reducible refine LeO.ite ?_ ?_)
   | (with_reducible refine LeO.bind ?_ (fun _ => ?_))
   | exact ih0 _ _ _
   | exact ih1 _ _ _ _ _ _ _ _ _ _ _ _
   | exact ih2 _ _ _ _ _ _ _ _ _ _ _ _
   | exact ih3 _ _ _ _ _ _ _ _ _ _ _ _
   | exact ih4 _ _ _ _ _ _ _ _ _ _ _ _ _ _
   | exact ih5 _ _ _ _ _ _ _ _ _ _ _ _ _ _
   | exact ih6 _ _ _ _ _ _ _ _ _ _ _ _ _ _ _
   | exact lambrequinref14_Sort.mono _ _
   | exact lambrequinref20_Leads.mono _ _ _ _
   | exact lambrequinref20_Uses.mono _ _ _ _ _ _ _ _ _
   | exact LeO.none _
   | refine LeO.ite ?_ ?_
   | refine LeO.bind ?_ (fun _ => ?_)
  ·intro y0 y1 y2 y3 y4 y5 y6 y7 y8 y9 y10 y11 y12 y13
   unfold lambrequinref21_Of.j5
   repeat' first
   | (with_reducible exact ih0 _ _ _)
   | (with_reducible exact ih1 _ _ _ _ _ _ _ _ _ _ _ _)
   | (with_reducible exact ih2 _ _ _ _ _ _ _ _ _ _ _ _)
   | (with_reducible exact ih3 _ _ _ _ _ _ _ _ _ _ _ _)
   | (with_reducible exact ih4 _ _ _ _ _ _ _ _ _ _ _ _ _ _)
   | (with_reducible exact ih5 _ _ _ _ _ _ _ _ _ _ _ _ _ _)
   | (with_reducible exact ih6 _ _ _ _ _ _ _ _ _ _ _ _ _ _ _)
   | (with_reducible exact lambrequinref14_Sort.mono _ _)
   | (with_reducible exact lambrequinref20_Leads.mono _ _ _ _)
   | (with_reducible exact lambrequinref20_Uses.mono _ _ _ _ _ _ _ _ _)
   | (with_reducible exact LeO.refl _)
   | (with_reducible exact LeO.none _)
   | (with_reducible refine LeO.ite ?_ ?_)
   | (with_reducible refine LeO.bind ?_ (fun _ => ?_))
   | exact ih0 _ _ _
   | exact ih1 _ _ _ _ _ _ _ _ _ _ _ _
   | exact ih2 _ _ _ _ _ _ _ _ _ _ _ _
   | exact ih3 _ _ _ _ _ _ _ _ _ _ _ _
   | exact ih4 _ _ _ _ _ _ _ _ _ _ _ _ _ _
   | exact ih5 _ _ _ _ _ _ _ _ _ _ _ _ _ _
   | exact ih6 _ _ _ _ _ _ _ _ _ _ _ _ _ _ _
   | exact lambrequinref14_Sort.mono _ _
   | exact lambrequinref20_Leads.mono _ _ _ _
   | exact lambrequinref20_Uses.mono _ _ _ _ _ _ _ _ _
   | exact LeO.none _
   | refine LeO.ite ?_ ?_
   | refine LeO.bind ?_ (fun _ => ?_)
  intro y0 y1 y2 y3 y4 y5 y6 y7 y8 y9 y10 y11 y12 y13 y14
  unfold lambrequinref21_Of.j6
  repeat' first
  | (with_reducible exact ih0 _ _ _)
  | (with_reducible exact ih1 _ _ _ _ _ _ _ _ _ _ _ _)
  | (with_reducible exact ih2 _ _ _ _ _ _ _ _ _ _ _ _)
  | (with_reducible exact ih3 _ _ _ _ _ _ _ _ _ _ _ _)
  | (with_reducible exact ih4 _ _ _ _ _ _ _ _ _ _ _ _ _ _)
  | (with_reducible exact ih5 _ _ _ _ _ _ _ _ _ _ _ _ _ _)
  | (with_reducible exact ih6 _ _ _ _ _ _ _ _ _ _ _ _ _ _ _)
  | (with_reducible exact lambrequinref14_Sort.mono _ _)
  | (with_reducible exact lambrequinref20_Leads.mono _ _ _ _)
  | (with_reducible exact lambrequinref20_Uses.mono _ _ _ _ _ _ _ _ _)
  | (with_reducible exact LeO.refl _)
  | (with_reducible exact LeO.none _)
  | (with_reducible refine LeO.ite ?_ ?_)
  | (with_reducible refine LeO.bind ?_ (fun _ => ?_))
  | exact ih0 _ _ _
  | exact ih1 _ _ _ _ _ _ _ _ _ _ _ _
  | exact ih2 _ _ _ _ _ _ _ _ _ _ _ _
  | exact ih3 _ _ _ _ _ _ _ _ _ _ _ _
  | exact ih4 _ _ _ _ _ _ _ _ _ _ _ _ _ _
  | exact ih5 _ _ _ _ _ _ _ _ _ _ _ _ _ _
  | exact ih6 _ _ _ _ _ _ _ _ _ _ _ _ _ _ _
  | exact lambrequinref14_Sort.mono _ _
  | exact lambrequinref20_Leads.mono _ _ _ _
  | exact lambrequinref20_Uses.mono _ _ _ _ _ _ _ _ _
  | exact LeO.none _
  | refine LeO.ite ?_ ?_
  | refine LeO.bind ?_ (fun _ => ?_)
theorem lambrequinref21_Of.mono : ∀ a0 k, LeO (lambrequinref21_Of.f k a0) (lambrequinref21_Of.f (k + 1) a0) := by
 intro a0 k
 obtain ⟨ih0, ih1, ih2, ih3, ih4, ih5, ih6⟩ := lambrequinref21_Of.mono_l k
 unfold lambrequinref21_Of.f
 repeat' first
   | (with_reducible exact ih0 _ _ _)
   | (with_reducible exact ih1 _ _ _ _ _ _ _ _ _ _ _ _)
   | (with_reducible exact ih2 _ _ _ _ _ _ _ _ _ _ _ _)
   | (with_reducible exact ih3 _ _ _ _ _ _ _ _ _ _ _ _)
   | (with_reducible exact ih4 _ _ _ _ _ _ _ _ _ _ _ _ _ _)
   | (with_reducible exact ih5 _ _ _ _ _ _ _ _ _ _ _ _ _ _)
   | (with_reducible exact ih6 _ _ _ _ _ _ _ _ _ _ _ _ _ _ _)
   | (with_reducible exact lambrequinref14_Sort.mono _ _)
   | (with_reducible exact lambrequinref20_Leads.mono _ _ _ _)
   | (with_reducible exact lambrequinref20_Uses.mono _ _ _ _ _ _ _ _ _)
   | (with_reducible exact LeO.refl _)
   | (with_reducible exact LeO.none _)
   | (with_reducible refine LeO.ite ?_ ?_)
   | (with_reducible refine LeO.bind ?_ (fun _ => ?_))
   | exact ih0 _ _ _
   | exact ih1 _ _ _ _ _ _ _ _ _ _ _ _
   | exact ih2 _ _ _ _ _ _ _ _ _ _ _ _
   | exact ih3 _ _ _ _ _ _ _ _ _ _ _ _
   | exact ih4 _ _ _ _ _ _ _ _ _ _ _ _ _ _
   | exact ih5 _ _ _ _ _ _ _ _ _ _ _ _ _ _
   | exact ih6 _ _ _ _ _ _ _ _ _ _ _ _ _ _ _
   | exact lambrequinref14_Sort.mono _ _
   | exact lambrequinref20_Leads.mono _ _ _ _
   | exact lambrequinref20_Uses.mono _ _ _ _ _ _ _ _ _
   | exact LeO.none _
   | refine LeO.ite ?_ ?_
   | refine LeO.bind ?_ (fun _ => ?_)
def lambrequinref21_Of.T21 : Bool × List (List Nat × List Nat) := (true, [([], []), ([], []), ([1], [1]), ([], []), ([], []), ([3, 4], [3, 4]), ([5], [5]), ([6, 2], [6]), ([2, 7, 7], [2, 7]), ([8], [8]), ([0, 9, 8], [0, 9]), ([10, 10, 0, 1, 2, 3, 4, 5, 6, 7, 8, 9, 10], [0, 10])])
def lambrequinref21_Of.B21 : List Nat := [0, 0, 2, 0, 0, 24, 56, 126, 254, 510, 1023, 2047]
theorem lambrequinref21_Of.tab21 : rtab .any (opsOf Tryz.f7 21) = lambrequinref21_Of.T21 := by kernel_rfl
theorem lambrequinref21_Of.bits21 : waitsOk lambrequinref21_Of.T21.2 lambrequinref21_Of.B21 = true := by kernel_rfl
def lambrequinref21_Of.T23 : Bool × List (List Nat × List Nat) := (true, [([], []), ([], []), ([1], [1]), ([], []), ([], []), ([3, 4], [3, 4]), ([5], [5]), ([6, 2], [6]), ([2, 7, 7], [2, 7]), ([8], [8]), ([0, 9, 8], [0, 9]), ([10, 10, 0, 1, 2, 3, 4, 5, 6, 7, 8, 9, 10], [0, 10])])
def lambrequinref21_Of.B23 : List Nat := [0, 0, 2, 0, 0, 24, 56, 126, 254, 510, 1023, 2047]
theorem lambrequinref21_Of.tab23 : rtab .any (opsOf Tryz.f7 23) = lambrequinref21_Of.T23 := by kernel_rfl
theorem lambrequinref21_Of.bits23 : waitsOk lambrequinref21_Of.T23.2 lambrequinref21_Of.B23 = true := by kernel_rfl
def lambrequinref21_Of.T25 : Bool × List (List Nat × List Nat) := (true, [([], []), ([], []), ([1], [1]), ([], []), ([3, 2], [3]), ([], []), ([], []), ([5, 6], [5, 6]), ([7], [7]), ([8, 4], [8]), ([2, 4, 9], [2, 4, 9]), ([10], [10]), ([11], [11]), ([0, 12, 9], [0, 12]), ([13, 13, 0, 1, 2, 3, 4, 5, 6, 7, 8, 9, 10, 11, 12, 13], [0, 13])])
def lambrequinref21_Of.B25 : List Nat := [0, 0, 2, 0, 14, 0, 0, 96, 224, 510, 1022, 2046, 4094, 8191, 16383]
theorem lambrequinref21_Of.tab25 : rtab .any (opsOf Tryz.f7 25) = lambrequinref21_Of.T25 := by kernel_rfl
theorem lambrequinref21_Of.bits25 : waitsOk lambrequinref21_Of.T25.2 lambrequinref21_Of.B25 = true := by kernel_rfl
set_option maxHeartbeats 8000000 in
set_option maxRecDepth 100000 in
theorem lambrequinref21_Of.calls (k : Nat) (A0 : Option Addr) (c0 : Nat) (l0 : List (Stmt)) (r : List (Fact)) (w : World) (hr0 : Kd.C k34 w A0 l0.length l0) (hc0 : l0.length ≤ c0) (h : lambrequinref21_Of.f k l0 = some r) :
  Calls Tryz.prog 7 #[.slice A0 l0.length c0] w fun e w' => ∃ v0_ : Value, e = .returned (v0_) ∧ Kd.N k26 26 w' w.heap.size (fun k_ => (w.heap.size ≤ k_)) v0_ r ∧ Below w.heap.size w w' := by
 have hu34 := Tryz.underlying34
 have hu26 := Tryz.underlying26
 have HR0 := am hr0
 have HC0 := am hc0
 clear hr0 hc0
 have HB := am (Below.refl w.heap.size w)
 have H : (lambrequinref21_Of.l0 k l0 ([] : List (Fact)) 0) = some r := h
 clear h
 have H' := am H
 clear H
 go_enter Tryz.func7, Tryz.ntmps7
 go_wp2
 go_loopg [3, 4] k (fun kq v3 v4 w' => ∃ (x3_1 : List (Fact)) (x4_1 : Int), v4 = .int .i64 x4_1 ∧ Aside0 (lambrequinref21_Of.l0 kq l0 x3_1 x4_1 = some r) ∧ Aside0 (kq ≤ k) ∧ Aside0 (Kd.N k26 26 w' w.heap.size (fun k_ => (w.heap.size ≤ k_)) v3 x3_1) ∧ Aside0 (Below w.heap.size w w'))
 case atStart => exact ⟨(([] : List (Fact))), (0), rs_, H', ⟨Nat.le_refl _⟩, ⟨by first | exact Kd.R_nil _ _ _ _ _ | exact Kd.N_nil _ _ _ _ _ | exact Kd.V_nil _ _ _ _ _ | exact Kd.Q_nil _ _ _ _ _ | exact Kd.S_nil _ _ _ _ _⟩, ⟨pL HB.out⟩⟩
 case round =>
  clear H'
  obtain ⟨x3_1, x4_1, rfl, HA, HK1, HO_3, HB⟩ := hrel
  cases gk with
  | zero => exact absurd HA.out (by simp [lambrequinref21_Of.l0])
  | succ k1 =>
   have H := HA.out
   clear HA
   simp only [lambrequinref21_Of.l0] at H
   by_cases c2 : x4_1 < (l0.length : Int)
   rotate_left
   ·rw [if_neg c2] at H
    have c2b0 : decide (x4_1 < (l0.length : Int)) = false := decide_eq_false c2
    clear c2
    replace H := Option.bind_eq_some_iff.mp H
    obtain ⟨t101, A1000, H⟩ := H
    replace H : (some t101) = some r := H
    have A100 := am A1000
    clear A1000
    obtain rfl := Option.some.inj H
    obtain ⟨Ao101, co101, eo101⟩ := Kd.N_slice HO_3.out
    subst eo101
    go_wp2_with (first | ((with_reducible refine gate_callee (f := 21) rfl ?_); refine goesL_ (some 127) rfl rfl Tryz.func21 (by kernel_rfl) rfl #[.slice Ao101 x3_1.length co101] rfl gl_ ?_; (with_reducible refine (lambrequinref14_Sort.calls k1 _ _ x3_1 t101 _ ?side1 ?side2 A100.out).mono ?_); (case side1 => repeat (first | exact (Kd.N_reads' HO_3.out).2.2 | (with_reducible refine Kd.C_alloc ?_ _) | (with_reducible refine Kd.C_drewN ?_ _) | (with_reducible refine Kd.C_drew ?_))); (case side2 => exact (Kd.N_reads' HO_3.out).2.1); rintro e w102 ⟨v102, rfl, ho0, hb⟩; refine ⟨_, rfl, ?_⟩; have HO103 := am (Kd.N_lower (Kd.N_mono (ok' := fun k_ => (w.heap.size ≤ k_) ∧ some k_ ≠ (.slice Ao101 x3_1.length co101 : Value).ownBlock) ho0 (fun k_ hk_ => ⟨(Nat.le_trans (below_size (pL HB.out)) hk_), (Kd.fresh' (Kd.N_lt (by (with_reducible repeat (first | apply Kd.N_alloc | apply Kd.N_drewN | apply Kd.N_drew)); exact HO_3.out)) k_ hk_)⟩)) (below_size (pL HB.out))); replace HO_3 := am (Kd.N_elder' (by (with_reducible repeat (first | apply Kd.N_alloc | apply Kd.N_drewN | apply Kd.N_drew)); exact HO_3.out) (Kd.N_base ho0) hb); replace HB := am (bs_ HB.out hb); (try clear hb); (try clear hb2); (try clear hk); (try clear hi); (try clear ho0)))
    go_ret
    exact ⟨_, er_, by (with_reducible repeat (first | apply Kd.N_alloc | apply Kd.N_drewN | apply Kd.N_drew)); exact Kd.N_mono HO103.out (fun _ hk => hk.1), pL HB.out⟩
   rw [if_pos c2] at H
   have c2b0 : decide (x4_1 < (l0.length : Int)) = true := decide_eq_true c2
   clear c2
   by_cases c3 : 0 ≤ x4_1
   rotate_left
   ·rw [if_neg c3] at H
    exact absurd H (by simp)
   rw [if_pos c3] at H
   have c3b0 : decide (0 ≤ x4_1) = true := decide_eq_true c3
   clear c3
   replace H := Option.bind_eq_some_iff.mp H
   obtain ⟨⟨t106, t107, t108⟩, A40, H⟩ := H
   replace H : (if x3_1.length < 3518437208883 then (lambrequinref21_Of.l1 k1 l0 (x3_1 ++ [(⟨(⟨#[110, 111, 100, 101]⟩ : ByteArray), (([(⟨t106, t107, t108⟩ : Val)] : List (Val)))⟩ : Fact)]) x4_1 0 ((rd_T34 l0 x4_1).kind) ((rd_T34 l0 x4_1).x) ((rd_T34 l0 x4_1).y) ((rd_T34 l0 x4_1).z) ((rd_T34 l0 x4_1).op) ((rd_T34 l0 x4_1).n) ((rd_T34 l0 x4_1).a) ((rd_T34 l0 x4_1).b)) else (none)) = some r := H
   have A4 := am A40
   clear A40
   obtain ⟨y109, hy109⟩ : ∃ y_ : List (Val), y_ = (([(⟨t106, t107, t108⟩ : Val)] : List (Val))) := ⟨_, rfl⟩
   replace H : (if x3_1.length < 3518437208883 then (lambrequinref21_Of.l1 k1 l0 (x3_1 ++ [(⟨(⟨#[110, 111, 100, 101]⟩ : ByteArray), y109⟩ : Fact)]) x4_1 0 ((rd_T34 l0 x4_1).kind) ((rd_T34 l0 x4_1).x) ((rd_T34 l0 x4_1).y) ((rd_T34 l0 x4_1).z) ((rd_T34 l0 x4_1).op) ((rd_T34 l0 x4_1).n) ((rd_T34 l0 x4_1).a) ((rd_T34 l0 x4_1).b)) else (none)) = some r := by first | (rw [hy109]; with_reducible exact H) | (have H2_ := (Option.bind_some _ _).symm.trans H; rw [hy109]; with_reducible exact H2_) | (have H2_ := (Option.bind_some _ _).symm.trans H; with_reducible exact H2_) | with_reducible exact H | (rw [hy109]; exact H) | exact H
   have Ny109 := am hy109
   clear hy109
   by_cases c5 : x3_1.length < 3518437208883
   rotate_left
   ·rw [if_neg c5] at H
    exact absurd H (by simp)
   rw [if_pos c5] at H
   have LMc5 := am c5
   clear c5
   obtain ⟨y112, hy112⟩ : ∃ y_ : List (Fact), y_ = (x3_1 ++ [(⟨(⟨#[110, 111, 100, 101]⟩ : ByteArray), y109⟩ : Fact)]) := ⟨_, rfl⟩
   replace H : (lambrequinref21_Of.l1 k1 l0 y112 x4_1 0 ((rd_T34 l0 x4_1).kind) ((rd_T34 l0 x4_1).x) ((rd_T34 l0 x4_1).y) ((rd_T34 l0 x4_1).z) ((rd_T34 l0 x4_1).op) ((rd_T34 l0 x4_1).n) ((rd_T34 l0 x4_1).a) ((rd_T34 l0 x4_1).b)) = some r := by first | (rw [hy112]; with_reducible exact H) | (have H2_ := (Option.bind_some _ _).symm.trans H; rw [hy112]; with_reducible exact H2_) | (have H2_ := (Option.bind_some _ _).symm.trans H; with_reducible exact H2_) | with_reducible exact H | (rw [hy112]; exact H) | exact H
   have Ny112 := am hy112
   clear hy112
   have H' := am H
   clear H
   have p104 : 0 ≤ (x4_1 : Int) := dt_
   have q104 : x4_1 < (l0.length : Int) := dt_
   obtain ⟨ad104, e104, hx104_0, hx104_1, hx104_2, hx104_3, hx104_4, hx104_5, hx104_6, hx104_7⟩ := at_T34 HR0.out x4_1 p104 q104
   cases e104
   replace hx104_0 := up_ HB.out hx104_0
   replace hx104_1 := up_ HB.out hx104_1
   replace hx104_2 := up_ HB.out hx104_2
   replace hx104_3 := up_ HB.out hx104_3
   replace hx104_4 := up_ HB.out hx104_4
   replace hx104_5 := up_ HB.out hx104_5
   replace hx104_6 := up_ HB.out hx104_6
   replace hx104_7 := up_ HB.out hx104_7
   replace p104 := eq_true p104
   replace q104 := eq_true q104
   go_wp2_with (first | ((with_reducible refine gate_dst (N := 5) rfl ?_); refine box_event ?hg (N := 5) ?hd (cs := #[.int .i64 0, .string (⟨#[]⟩ : ByteArray), .string (⟨#[]⟩ : ByteArray), .string (⟨#[]⟩ : ByteArray), .string (⟨#[]⟩ : ByteArray), .int .i64 0, .int .i64 0, .int .i64 0]) (t := 34) ?hr ?_; (case hd => rfl); (case hg => rfl); (case hr => first | (go_simp; done) | (go_simp; rfl)); intro gb105 hg w6 hbox hb; replace HO_3 := am (Kd.N_below (Kd.N_elderB (by (with_reducible repeat (first | apply Kd.N_alloc | apply Kd.N_drewN | apply Kd.N_drew)); exact HO_3.out) gb105 (Nat.le_of_eq hg.symm)) hb); have BK105 := am (hbox); have GW105 := am (gw_ hg HB.out); have GE105 := GW105; replace HB := am (bs_ HB.out hb); clear hb hbox hg; obtain ⟨hcz7_0, hcz7_1, hcz7_2, hcz7_3, hcz7_4, hcz7_5, hcz7_6, hcz7_7, hfz7_0, hfz7_1, hfz7_2, hfz7_3, hfz7_4, hfz7_5, hfz7_6, hfz7_7⟩ := bc8 BK105.out) | ((with_reducible refine gate_callee (f := 15) rfl ?_); refine goesL_ (some 23) rfl rfl Tryz.func15 (by kernel_rfl) rfl #[.int .i64 x4_1] rfl gl_ ?_; (with_reducible refine (lambrequinref21_num.calls x4_1 t106 t107 t108 _ A4.out).mono ?_); rintro e w8 ⟨rfl, hb⟩; refine ⟨_, rfl, ?_⟩; replace HO_3 := am (Kd.N_below (by (with_reducible repeat (first | apply Kd.N_alloc | apply Kd.N_drewN | apply Kd.N_drew)); exact (Kd.N_mono (Kd.N_far (p := ⟨gb105, 7, none⟩) (Kd.N_far (p := ⟨gb105, 6, none⟩) (Kd.N_far (p := ⟨gb105, 5, none⟩) (Kd.N_far (p := ⟨gb105, 4, none⟩) (Kd.N_far (p := ⟨gb105, 3, none⟩) (Kd.N_far (p := ⟨gb105, 2, none⟩) (Kd.N_far (p := ⟨gb105, 1, none⟩) (Kd.N_far (p := ⟨gb105, 0, none⟩) (Kd.N_mono HO_3.out (fun k_ hk => (⟨hk, hk.2⟩ : _ ∧ k_ ≠ gb105))) (fun _ hk => hk.2) _) (fun _ hk => hk.2) _) (fun _ hk => hk.2) _) (fun _ hk => hk.2) _) (fun _ hk => hk.2) _) (fun _ hk => hk.2) _) (fun _ hk => hk.2) _) (fun _ hk => hk.2) _) (fun _ h_ => h_.1))) hb); replace BK105 := am (blk_below (g := gb105) (o := .cells #[.int .i64 ((rd_T34 l0 x4_1).kind), .string ((rd_T34 l0 x4_1).x), .string ((rd_T34 l0 x4_1).y), .string ((rd_T34 l0 x4_1).z), .string ((rd_T34 l0 x4_1).op), .int .i64 ((rd_T34 l0 x4_1).n), .int .i64 ((rd_T34 l0 x4_1).a), .int .i64 ((rd_T34 l0 x4_1).b)] 34 (0, 0)) (by (with_reducible repeat (first | refine bN ?_ _ | refine bD ?_ | refine bA ?_ _)); exact bp 7 (bp 6 (bp 5 (bp 4 (bp 3 (bp 2 (bp 1 (bp 0 BK105.out)))))))) hb); replace HB := am (bs_ HB.out hb); (try clear hb); (try clear hb2); (try clear hk); (try clear hi)) | ((with_reducible refine gate_dst (N := 24) rfl ?_); refine Kd.R_lit k36 _ 36 ?hg (N := 24) ?hd (xs := ([(⟨t106, t107, t108⟩ : Val)] : List (Val))) (inner := [.bool t106, .string t107, .int .i64 t108]) (ok := fun _ => True) (okp := fun _ => True) ?hr ?hp (fun _ hk => hk) trivial (Below.refl _ _) (Nat.le_refl _) (by simp) ?_; (case hd => rfl); (case hg => rfl); (case hr => first | (go_simp; done) | (go_simp; rfl)); (case hp => exact (Reps.c3 (show Kd.M k36 _ _ _ (⟨t106, t107, t108⟩ : Val) [.bool t106, .string t107, .int .i64 t108] from (k36_mkM _ _ _ (⟨t106, t107, t108⟩ : Val) )) (Reps.none _ _))); intro v110 w9 ho10 hb hg_ hnew_; clear hg_ hnew_; (first | rw [← Ny109.out] at ho10 | (simp only [Int.reduceToNat] at ho10; rw [← Ny109.out] at ho10)); replace HO_3 := am (Kd.N_elder' (by (with_reducible repeat (first | apply Kd.N_alloc | apply Kd.N_drewN | apply Kd.N_drew)); exact HO_3.out) (Kd.R_base ho10) hb); have HO111 := am (Kd.R_lower (Kd.R_newM (M := fun k_ => (w.heap.size ≤ k_)) ho10 (below_size (pL HB.out)) (fun k_ h_ => h_)) (below_size (pL HB.out))); replace BK105 := am (bb_ BK105.out hb); replace HB := am (bs_ HB.out hb); clear hb ho10; obtain ⟨Ao11, co11, eo11⟩ := Kd.R_slice HO111.out; subst eo11) | ((with_reducible refine gate_builtin (b := .append) (xs := #[.tmp 21, .tmp 26]) rfl ?_); at_builtin; refine Kd.N_append k26 (w0 := w) w.heap.size rfl (.tmp 21) (.tmp 26) 23 26 (.agg #[(.string ⟨#[]⟩), (.slice none 0 0)]) 40 rfl Tryz.underlying23 info26 rfl (by decide) (by omega) u3 x3_1 (⟨(⟨#[110, 111, 100, 101]⟩ : ByteArray), y109⟩ : Fact) [.string (⟨#[110, 111, 100, 101]⟩ : ByteArray), .slice Ao11 y109.length co11] (fun k_ => (w.heap.size ≤ k_) ∧ k_ ≠ gb105) (fun k_ => ((fun k_ => (w.heap.size ≤ k_) ∧ k_ ≠ gb105)) k_ ∧ some k_ ≠ (u3 : Value).ownBlock) rfl rfl ?aP (fun _ hk => hk) ?aF ?aO ?aB ?aS ?aL ?_; (case aP => exact (k26_mkF _ _ (⟨(⟨#[110, 111, 100, 101]⟩ : ByteArray), y109⟩ : Fact) (Kd.R_reads' (Kd.R_mono (ok' := (fun k_ => ((fun k_ => (w.heap.size ≤ k_) ∧ k_ ≠ gb105)) k_ ∧ some k_ ≠ (u3 : Value).ownBlock)) (Kd.R_types (Kd.R_apart' (HO111.out) (Kd.N_typed HO_3.out) (by decide)) BK105.out (by decide)) (fun k_ hk => ⟨⟨hk.1.1.1, hk.2⟩, hk.1.2⟩))).2.1 (Kd.R_F (Kd.R_mono (ok' := (fun k_ => ((fun k_ => (w.heap.size ≤ k_) ∧ k_ ≠ gb105)) k_ ∧ some k_ ≠ (u3 : Value).ownBlock)) (Kd.R_types (Kd.R_apart' (HO111.out) (Kd.N_typed HO_3.out) (by decide)) BK105.out (by decide)) (fun k_ hk => ⟨⟨hk.1.1.1, hk.2⟩, hk.1.2⟩))))); (case aB => exact (pL HB.out)); (case aF => exact (fun k_ hk => ⟨(Nat.le_trans (below_size (pL HB.out)) hk), Kd.freshB (g := gb105) (pB BK105.out) k_ hk⟩)); (case aO => exact (by (with_reducible repeat (first | apply Kd.N_alloc | apply Kd.N_drewN | apply Kd.N_drew)); exact Kd.N_mono HO_3.out (fun _ hk => ⟨hk.1.1, hk.1.2⟩))); (case aS => exact (below_size (pL HB.out))); (case aL => have := LMc5.out; omega); intro v113 w12 ho hb hg hat; rw [← Ny112.out] at ho; replace BK105 := am (blk_grown (pB BK105.out) hg (Kd.N_ne HO_3.out BK105.out (by decide))); replace HB := am (hb); have HO114 := am (ho); clear HO_3 HO111; clear ho hb hg hat))
   go_loopg [3, 6] k1 (fun kq v3 v6 w' => ∃ (x3_2 : List (Fact)) (x6_2 : Int), v6 = .int .i64 x6_2 ∧ Aside0 (lambrequinref21_Of.l1 kq l0 x3_2 x4_1 x6_2 ((rd_T34 l0 x4_1).kind) ((rd_T34 l0 x4_1).x) ((rd_T34 l0 x4_1).y) ((rd_T34 l0 x4_1).z) ((rd_T34 l0 x4_1).op) ((rd_T34 l0 x4_1).n) ((rd_T34 l0 x4_1).a) ((rd_T34 l0 x4_1).b) = some r) ∧ Aside0 (kq ≤ k1) ∧ Aside0 (Kd.N k26 26 w' w.heap.size (fun k_ => (w.heap.size ≤ k_) ∧ k_ ≠ gb105) v3 x3_2) ∧ Aside0 (w'.heap[gb105]? = some (.cells #[.int .i64 ((rd_T34 l0 x4_1).kind), .string ((rd_T34 l0 x4_1).x), .string ((rd_T34 l0 x4_1).y), .string ((rd_T34 l0 x4_1).z), .string ((rd_T34 l0 x4_1).op), .int .i64 ((rd_T34 l0 x4_1).n), .int .i64 ((rd_T34 l0 x4_1).a), .int .i64 ((rd_T34 l0 x4_1).b)] 34 (0, 0))) ∧ Aside0 (Below w.heap.size w w'))
   case atStart => exact ⟨(y112), (0), rs_, H', ⟨Nat.le_refl _⟩, ⟨by (with_reducible repeat (first | apply Kd.N_alloc | apply Kd.N_drewN | apply Kd.N_drew)); exact HO114.out⟩, ⟨pB BK105.out⟩, ⟨pL HB.out⟩⟩
   case round =>
    clear H'
    try clear c1
    try clear p1
    try clear q1
    try clear hx1
    try clear c2
    try clear c2b0
    try clear p2
    try clear c3
    try clear c3b0
    try clear c5
    try clear c7
    try clear p10
    try clear q10
    try clear hx10
    try clear hcz7_0
    try clear hcz7_1
    try clear hcz7_2
    try clear hcz7_3
    try clear hcz7_4
    try clear hcz7_5
    try clear hcz7_6
    try clear hcz7_7
    try clear hfz7_0
    try clear hfz7_1
    try clear hfz7_2
    try clear hfz7_3
    try clear hfz7_4
    try clear hfz7_5
    try clear hfz7_6
    try clear hfz7_7
    try clear hx104_0
    try clear hx104_1
    try clear hx104_2
    try clear hx104_3
    try clear hx104_4
    try clear hx104_5
    try clear hx104_6
    try clear hx104_7
    try clear p104
    try clear q104
    obtain ⟨x3_2, x6_2, rfl, HA, HK2, HO_3, BK105, HB⟩ := hrel
    cases gk with
    | zero => exact absurd HA.out (by simp [lambrequinref21_Of.l1])
    | succ k2 =>
     have H := HA.out
     clear HA
     simp only [lambrequinref21_Of.l1] at H
     by_cases c13 : x6_2 < (l0.length : Int)
     ·rw [if_pos c13] at H
      have c13b0 : decide (x6_2 < (l0.length : Int)) = true := decide_eq_true c13
      clear c13
      replace H := Option.bind_eq_some_iff.mp H
      obtain ⟨t115, A140, H⟩ := H
      replace H : (if t115 = true then ((lambrequinref21_num.f x4_1).bind fun bt116 => ((lambrequinref21_num.f x6_2).bind fun bt119 => ((lambrequinref21_Two.f (⟨#[110, 101, 120, 116]⟩ : ByteArray) bt116.1 bt116.2.1 bt116.2.2 bt119.1 bt119.2.1 bt119.2.2).bind fun bt122 => (if x3_2.length < 3518437208883 then (lambrequinref21_Of.l1 k2 l0 (x3_2 ++ [(⟨bt122.1, bt122.2⟩ : Fact)]) x4_1 (wrap64 (x6_2 + 1)) ((rd_T34 l0 x4_1).kind) ((rd_T34 l0 x4_1).x) ((rd_T34 l0 x4_1).y) ((rd_T34 l0 x4_1).z) ((rd_T34 l0 x4_1).op) ((rd_T34 l0 x4_1).n) ((rd_T34 l0 x4_1).a) ((rd_T34 l0 x4_1).b)) else (none))))) else (lambrequinref21_Of.l1 k2 l0 x3_2 x4_1 (wrap64 (x6_2 + 1)) ((rd_T34 l0 x4_1).kind) ((rd_T34 l0 x4_1).x) ((rd_T34 l0 x4_1).y) ((rd_T34 l0 x4_1).z) ((rd_T34 l0 x4_1).op) ((rd_T34 l0 x4_1).n) ((rd_T34 l0 x4_1).a) ((rd_T34 l0 x4_1).b))) = some r := H
      have A14 := am A140
      clear A140
      by_cases c15 : t115 = true
      ·subst c15
       have H1 : ((lambrequinref21_num.f x4_1).bind fun bt116 => ((lambrequinref21_num.f x6_2).bind fun bt119 => ((lambrequinref21_Two.f (⟨#[110, 101, 120, 116]⟩ : ByteArray) bt116.1 bt116.2.1 bt116.2.2 bt119.1 bt119.2.1 bt119.2.2).bind fun bt122 => (if x3_2.length < 3518437208883 then (lambrequinref21_Of.l1 k2 l0 (x3_2 ++ [(⟨bt122.1, bt122.2⟩ : Fact)]) x4_1 (wrap64 (x6_2 + 1)) ((rd_T34 l0 x4_1).kind) ((rd_T34 l0 x4_1).x) ((rd_T34 l0 x4_1).y) ((rd_T34 l0 x4_1).z) ((rd_T34 l0 x4_1).op) ((rd_T34 l0 x4_1).n) ((rd_T34 l0 x4_1).a) ((rd_T34 l0 x4_1).b)) else (none))))) = some r := by rw [if_pos rfl] at H; exact H
       clear H
       have H := H1
       clear H1
       replace H := Option.bind_eq_some_iff.mp H
       obtain ⟨⟨t116, t117, t118⟩, A160, H⟩ := H
       replace H : ((lambrequinref21_num.f x6_2).bind fun bt119 => ((lambrequinref21_Two.f (⟨#[110, 101, 120, 116]⟩ : ByteArray) t116 t117 t118 bt119.1 bt119.2.1 bt119.2.2).bind fun bt122 => (if x3_2.length < 3518437208883 then (lambrequinref21_Of.l1 k2 l0 (x3_2 ++ [(⟨bt122.1, bt122.2⟩ : Fact)]) x4_1 (wrap64 (x6_2 + 1)) ((rd_T34 l0 x4_1).kind) ((rd_T34 l0 x4_1).x) ((rd_T34 l0 x4_1).y) ((rd_T34 l0 x4_1).z) ((rd_T34 l0 x4_1).op) ((rd_T34 l0 x4_1).n) ((rd_T34 l0 x4_1).a) ((rd_T34 l0 x4_1).b)) else (none)))) = some r := H
       have A16 := am A160
       clear A160
       replace H := Option.bind_eq_some_iff.mp H
       obtain ⟨⟨t119, t120, t121⟩, A170, H⟩ := H
       replace H : ((lambrequinref21_Two.f (⟨#[110, 101, 120, 116]⟩ : ByteArray) t116 t117 t118 t119 t120 t121).bind fun bt122 => (if x3_2.length < 3518437208883 then (lambrequinref21_Of.l1 k2 l0 (x3_2 ++ [(⟨bt122.1, bt122.2⟩ : Fact)]) x4_1 (wrap64 (x6_2 + 1)) ((rd_T34 l0 x4_1).kind) ((rd_T34 l0 x4_1).x) ((rd_T34 l0 x4_1).y) ((rd_T34 l0 x4_1).z) ((rd_T34 l0 x4_1).op) ((rd_T34 l0 x4_1).n) ((rd_T34 l0 x4_1).a) ((rd_T34 l0 x4_1).b)) else (none))) = some r := H
       have A17 := am A170
       clear A170
       replace H := Option.bind_eq_some_iff.mp H
       obtain ⟨⟨t122, t123⟩, A180, H⟩ := H
       replace H : (if x3_2.length < 3518437208883 then (lambrequinref21_Of.l1 k2 l0 (x3_2 ++ [(⟨t122, t123⟩ : Fact)]) x4_1 (wrap64 (x6_2 + 1)) ((rd_T34 l0 x4_1).kind) ((rd_T34 l0 x4_1).x) ((rd_T34 l0 x4_1).y) ((rd_T34 l0 x4_1).z) ((rd_T34 l0 x4_1).op) ((rd_T34 l0 x4_1).n) ((rd_T34 l0 x4_1).a) ((rd_T34 l0 x4_1).b)) else (none)) = some r := H
       have A18 := am A180
       clear A180
       by_cases c19 : x3_2.length < 3518437208883
       ·rw [if_pos c19] at H
        have LMc19 := am c19
        clear c19
        obtain ⟨y126, hy126⟩ : ∃ y_ : List (Fact), y_ = (x3_2 ++ [(⟨t122, t123⟩ : Fact)]) := ⟨_, rfl⟩
        replace H : (lambrequinref21_Of.l1 k2 l0 y126 x4_1 (wrap64 (x6_2 + 1)) ((rd_T34 l0 x4_1).kind) ((rd_T34 l0 x4_1).x) ((rd_T34 l0 x4_1).y) ((rd_T34 l0 x4_1).z) ((rd_T34 l0 x4_1).op) ((rd_T34 l0 x4_1).n) ((rd_T34 l0 x4_1).a) ((rd_T34 l0 x4_1).b)) = some r := by first | (rw [hy126]; with_reducible exact H) | (have H2_ := (Option.bind_some _ _).symm.trans H; rw [hy126]; with_reducible exact H2_) | (have H2_ := (Option.bind_some _ _).symm.trans H; with_reducible exact H2_) | with_reducible exact H | (rw [hy126]; exact H) | exact H
        have Ny126 := am hy126
        clear hy126
        have H' := am H
        clear H
        go_wp2_with (first | ((with_reducible refine gate_callee (f := 16) rfl ?_); refine goesL_ (some 37) rfl rfl Tryz.func16 (by kernel_rfl) rfl #[.slice (some ad104) l0.length c0, .int .i64 x4_1, .int .i64 x6_2] rfl gl_ ?_; (with_reducible refine (lambrequinref20_Leads.calls k2 _ _ l0 x4_1 x6_2 true _ ?side1 ?side2 A14.out).mono ?_); (case side1 => repeat (first | exact (Kd.C_below HR0.out HB.out) | (with_reducible refine Kd.C_alloc ?_ _) | (with_reducible refine Kd.C_drewN ?_ _) | (with_reducible refine Kd.C_drew ?_))); (case side2 => exact HC0.out); rintro e w' ⟨rfl, ⟨nd, rfl⟩⟩; refine ⟨_, rfl, ?_⟩) | ((with_reducible refine gate_callee (f := 15) rfl ?_); refine goesL_ (some 40) rfl rfl Tryz.func15 (by kernel_rfl) rfl #[.int .i64 x4_1] rfl gl_ ?_; (with_reducible refine (lambrequinref21_num.calls x4_1 t116 t117 t118 _ A16.out).mono ?_); rintro e w20 ⟨rfl, hb⟩; refine ⟨_, rfl, ?_⟩; replace HO_3 := am (Kd.N_below (by (with_reducible repeat (first | apply Kd.N_alloc | apply Kd.N_drewN | apply Kd.N_drew)); exact HO_3.out) hb); replace BK105 := am (bb_ BK105.out hb); replace HB := am (bs_ HB.out hb); (try clear hb); (try clear hb2); (try clear hk); (try clear hi)) | ((with_reducible refine gate_callee (f := 15) rfl ?_); refine goesL_ (some 42) rfl rfl Tryz.func15 (by kernel_rfl) rfl #[.int .i64 x6_2] rfl gl_ ?_; (with_reducible refine (lambrequinref21_num.calls x6_2 t119 t120 t121 _ A17.out).mono ?_); rintro e w21 ⟨rfl, hb⟩; refine ⟨_, rfl, ?_⟩; replace HO_3 := am (Kd.N_below (by (with_reducible repeat (first | apply Kd.N_alloc | apply Kd.N_drewN | apply Kd.N_drew)); exact HO_3.out) hb); replace BK105 := am (bb_ BK105.out hb); replace HB := am (bs_ HB.out hb); (try clear hb); (try clear hb2); (try clear hk); (try clear hi)) | ((with_reducible refine gate_callee (f := 17) rfl ?_); refine goesL_ (some 43) rfl rfl Tryz.func17 (by kernel_rfl) rfl #[.string (⟨#[110, 101, 120, 116]⟩ : ByteArray), .agg #[.bool t116, .string t117, .int .i64 t118], .agg #[.bool t119, .string t120, .int .i64 t121]] rfl gl_ ?_; (with_reducible refine (lambrequinref21_Two.calls (⟨#[110, 101, 120, 116]⟩ : ByteArray) t116 t117 t118 t119 t120 t121 t122 t123 _ A18.out).mono ?_); rintro e w22 ⟨v124, rfl, ho0, hb⟩; refine ⟨_, rfl, ?_⟩; replace HO_3 := am (Kd.N_elder' (by (with_reducible repeat (first | apply Kd.N_alloc | apply Kd.N_drewN | apply Kd.N_drew)); exact HO_3.out) (Kd.R_base ho0) hb); have HO125 := am (Kd.R_lower (Kd.R_newM (M := fun k_ => (w.heap.size ≤ k_)) ho0 (below_size (pL HB.out)) (fun k_ h_ => h_)) (below_size (pL HB.out))); replace BK105 := am (bb_ BK105.out hb); replace HB := am (bs_ HB.out hb); (try clear hb); (try clear hb2); (try clear hk); (try clear hi); (try clear ho0); obtain ⟨Ao24, co24, eo24⟩ := Kd.R_slice HO125.out; subst eo24) | ((with_reducible refine gate_builtin (b := .append) (xs := #[.tmp 38, .tmp 44]) rfl ?_); at_builtin; refine Kd.N_append k26 (w0 := w) w.heap.size rfl (.tmp 38) (.tmp 44) 23 26 (.agg #[(.string ⟨#[]⟩), (.slice none 0 0)]) 40 rfl Tryz.underlying23 info26 rfl (by decide) (by omega) u3 x3_2 (⟨t122, t123⟩ : Fact) [.string t122, .slice Ao24 t123.length co24] (fun k_ => (w.heap.size ≤ k_) ∧ k_ ≠ gb105) (fun k_ => ((fun k_ => (w.heap.size ≤ k_) ∧ k_ ≠ gb105)) k_ ∧ some k_ ≠ (u3 : Value).ownBlock) rfl rfl ?aP (fun _ hk => hk) ?aF ?aO ?aB ?aS ?aL ?_; (case aP => exact (k26_mkF _ _ (⟨t122, t123⟩ : Fact) (Kd.R_reads' (Kd.R_mono (ok' := (fun k_ => ((fun k_ => (w.heap.size ≤ k_) ∧ k_ ≠ gb105)) k_ ∧ some k_ ≠ (u3 : Value).ownBlock)) (Kd.R_types (Kd.R_apart' (HO125.out) (Kd.N_typed HO_3.out) (by decide)) BK105.out (by decide)) (fun k_ hk => ⟨⟨hk.1.1.1, hk.2⟩, hk.1.2⟩))).2.1 (Kd.R_F (Kd.R_mono (ok' := (fun k_ => ((fun k_ => (w.heap.size ≤ k_) ∧ k_ ≠ gb105)) k_ ∧ some k_ ≠ (u3 : Value).ownBlock)) (Kd.R_types (Kd.R_apart' (HO125.out) (Kd.N_typed HO_3.out) (by decide)) BK105.out (by decide)) (fun k_ hk => ⟨⟨hk.1.1.1, hk.2⟩, hk.1.2⟩))))); (case aB => exact (pL HB.out)); (case aF => exact (fun k_ hk => ⟨(Nat.le_trans (below_size (pL HB.out)) hk), Kd.freshB (g := gb105) (pB BK105.out) k_ hk⟩)); (case aO => exact (by (with_reducible repeat (first | apply Kd.N_alloc | apply Kd.N_drewN | apply Kd.N_drew)); exact Kd.N_mono HO_3.out (fun _ hk => ⟨hk.1.1, hk.1.2⟩))); (case aS => exact (below_size (pL HB.out))); (case aL => have := LMc19.out; omega); intro v127 w23 ho hb hg hat; rw [← Ny126.out] at ho; replace BK105 := am (blk_grown (pB BK105.out) hg (Kd.N_ne HO_3.out BK105.out (by decide))); replace HB := am (hb); have HO128 := am (ho); clear HO_3 HO125; clear ho hb hg hat))
        go_roundg k2
        case measure => have := HK1.out; have := HK2.out; omega
        case rel => exact ⟨(y126), (wrap64 (x6_2 + 1)), rs_, H', ⟨by have := HK1.out; have := HK2.out; omega⟩, ⟨by (with_reducible repeat (first | apply Kd.N_alloc | apply Kd.N_drewN | apply Kd.N_drew)); exact HO128.out⟩, ⟨pB BK105.out⟩, ⟨pL HB.out⟩⟩
       rw [if_neg c19] at H
       exact absurd H (by simp)
      replace c15 := Bool.eq_false_iff.mpr c15
      subst c15
      have H1 : (lambrequinref21_Of.l1 k2 l0 x3_2 x4_1 (wrap64 (x6_2 + 1)) ((rd_T34 l0 x4_1).kind) ((rd_T34 l0 x4_1).x) ((rd_T34 l0 x4_1).y) ((rd_T34 l0 x4_1).z) ((rd_T34 l0 x4_1).op) ((rd_T34 l0 x4_1).n) ((rd_T34 l0 x4_1).a) ((rd_T34 l0 x4_1).b)) = some r := by rw [if_neg (show ¬ (false = true) by decide)] at H; exact H
      clear H
      have H := H1
      clear H1
      have H' := am H
      clear H
      go_wp2_with (first | ((with_reducible refine gate_callee (f := 16) rfl ?_); refine goesL_ (some 37) rfl rfl Tryz.func16 (by kernel_rfl) rfl #[.slice (some ad104) l0.length c0, .int .i64 x4_1, .int .i64 x6_2] rfl gl_ ?_; (with_reducible refine (lambrequinref20_Leads.calls k2 _ _ l0 x4_1 x6_2 false _ ?side1 ?side2 A14.out).mono ?_); (case side1 => repeat (first | exact (Kd.C_below HR0.out HB.out) | (with_reducible refine Kd.C_alloc ?_ _) | (with_reducible refine Kd.C_drewN ?_ _) | (with_reducible refine Kd.C_drew ?_))); (case side2 => exact HC0.out); rintro e w' ⟨rfl, ⟨nd, rfl⟩⟩; refine ⟨_, rfl, ?_⟩))
      go_roundg k2
      case measure => have := HK1.out; have := HK2.out; omega
      case rel => exact ⟨(x3_2), (wrap64 (x6_2 + 1)), rs_, H', ⟨by have := HK1.out; have := HK2.out; omega⟩, ⟨by (with_reducible repeat (first | apply Kd.N_alloc | apply Kd.N_drewN | apply Kd.N_drew)); exact HO_3.out⟩, ⟨pB BK105.out⟩, ⟨pL HB.out⟩⟩
     rw [if_neg c13] at H
     have c13b0 : decide (x6_2 < (l0.length : Int)) = false := decide_eq_false c13
     clear c13
     replace H := Option.bind_eq_some_iff.mp H
     obtain ⟨⟨t129, t130⟩, A250, H⟩ := H
     replace H : (if t130 = true then ((lambrequinref21_num.f x4_1).bind fun bt131 => ((lambrequinref21_sym.f t129).bind fun bt134 => ((lambrequinref21_Two.f (⟨#[100, 101, 102]⟩ : ByteArray) bt131.1 bt131.2.1 bt131.2.2 bt134.1 bt134.2.1 bt134.2.2).bind fun bt137 => (if x3_2.length < 3518437208883 then (lambrequinref21_Of.j2 k2 l0 (x3_2 ++ [(⟨bt137.1, bt137.2⟩ : Fact)]) x4_1 t129 ((rd_T34 l0 x4_1).kind) ((rd_T34 l0 x4_1).x) ((rd_T34 l0 x4_1).y) ((rd_T34 l0 x4_1).z) ((rd_T34 l0 x4_1).op) ((rd_T34 l0 x4_1).n) ((rd_T34 l0 x4_1).a) ((rd_T34 l0 x4_1).b)) else (none))))) else (lambrequinref21_Of.j2 k2 l0 x3_2 x4_1 t129 ((rd_T34 l0 x4_1).kind) ((rd_T34 l0 x4_1).x) ((rd_T34 l0 x4_1).y) ((rd_T34 l0 x4_1).z) ((rd_T34 l0 x4_1).op) ((rd_T34 l0 x4_1).n) ((rd_T34 l0 x4_1).a) ((rd_T34 l0 x4_1).b))) = some r := H
     have A25 := am A250
     clear A250
     have HC26 := am H
     clear H
     obtain ⟨hcz27_0, hcz27_1, hcz27_2, hcz27_3, hcz27_4, hcz27_5, hcz27_6, hcz27_7, hfz27_0, hfz27_1, hfz27_2, hfz27_3, hfz27_4, hfz27_5, hfz27_6, hfz27_7⟩ := bc8 BK105.out
     go_upto_if 51 with (first | ((with_reducible refine gate_callee (f := 18) rfl ?_); refine goesL_ (some 48) rfl rfl Tryz.func18 (by kernel_rfl) rfl #[.agg #[.int .i64 ((rd_T34 l0 x4_1).kind), .string ((rd_T34 l0 x4_1).x), .string ((rd_T34 l0 x4_1).y), .string ((rd_T34 l0 x4_1).z), .string ((rd_T34 l0 x4_1).op), .int .i64 ((rd_T34 l0 x4_1).n), .int .i64 ((rd_T34 l0 x4_1).a), .int .i64 ((rd_T34 l0 x4_1).b)]] rfl gl_ ?_; (with_reducible refine (lambrequinref20_Def.calls ((rd_T34 l0 x4_1).kind) ((rd_T34 l0 x4_1).x) ((rd_T34 l0 x4_1).y) ((rd_T34 l0 x4_1).z) ((rd_T34 l0 x4_1).op) ((rd_T34 l0 x4_1).n) ((rd_T34 l0 x4_1).a) ((rd_T34 l0 x4_1).b) t129 t130 _ A25.out).mono ?_); rintro e w28 ⟨rfl, hb⟩; refine ⟨_, rfl, ?_⟩; replace HO_3 := am (Kd.N_below (by (with_reducible repeat (first | apply Kd.N_alloc | apply Kd.N_drewN | apply Kd.N_drew)); exact HO_3.out) hb); replace BK105 := am (bb_ BK105.out hb); replace HB := am (bs_ HB.out hb); (try clear hb); (try clear hb2); (try clear hk); (try clear hi)))
     (try simp only [Act.put, List.setIfInBounds_toArray, List.set_cons_zero, List.set_cons_succ])
     go_cut [3] (fun v3 wc => ∃ (kq : Nat) (x3_25 : List (Fact)), Aside0 (lambrequinref21_Of.j2 kq l0 x3_25 x4_1 t129 ((rd_T34 l0 x4_1).kind) ((rd_T34 l0 x4_1).x) ((rd_T34 l0 x4_1).y) ((rd_T34 l0 x4_1).z) ((rd_T34 l0 x4_1).op) ((rd_T34 l0 x4_1).n) ((rd_T34 l0 x4_1).a) ((rd_T34 l0 x4_1).b) = some r) ∧ Aside0 (kq ≤ k2) ∧ Aside0 (Kd.N k26 26 wc w.heap.size (fun k_ => (w.heap.size ≤ k_) ∧ k_ ≠ gb105) v3 x3_25) ∧ Aside0 (wc.heap[gb105]? = some (.cells #[.int .i64 ((rd_T34 l0 x4_1).kind), .string ((rd_T34 l0 x4_1).x), .string ((rd_T34 l0 x4_1).y), .string ((rd_T34 l0 x4_1).z), .string ((rd_T34 l0 x4_1).op), .int .i64 ((rd_T34 l0 x4_1).n), .int .i64 ((rd_T34 l0 x4_1).a), .int .i64 ((rd_T34 l0 x4_1).b)] 34 (0, 0))) ∧ Aside0 (Below w.heap.size w wc))
     case first =>
      have H := HC26.out
      clear HC26
      by_cases c29 : t130 = true
      ·subst c29
       have H1 : ((lambrequinref21_num.f x4_1).bind fun bt131 => ((lambrequinref21_sym.f t129).bind fun bt134 => ((lambrequinref21_Two.f (⟨#[100, 101, 102]⟩ : ByteArray) bt131.1 bt131.2.1 bt131.2.2 bt134.1 bt134.2.1 bt134.2.2).bind fun bt137 => (if x3_2.length < 3518437208883 then (lambrequinref21_Of.j2 k2 l0 (x3_2 ++ [(⟨bt137.1, bt137.2⟩ : Fact)]) x4_1 t129 ((rd_T34 l0 x4_1).kind) ((rd_T34 l0 x4_1).x) ((rd_T34 l0 x4_1).y) ((rd_T34 l0 x4_1).z) ((rd_T34 l0 x4_1).op) ((rd_T34 l0 x4_1).n) ((rd_T34 l0 x4_1).a) ((rd_T34 l0 x4_1).b)) else (none))))) = some r := by rw [if_pos rfl] at H; exact H
       clear H
       have H := H1
       clear H1
       replace H := Option.bind_eq_some_iff.mp H
       obtain ⟨⟨t131, t132, t133⟩, A300, H⟩ := H
       replace H : ((lambrequinref21_sym.f t129).bind fun bt134 => ((lambrequinref21_Two.f (⟨#[100, 101, 102]⟩ : ByteArray) t131 t132 t133 bt134.1 bt134.2.1 bt134.2.2).bind fun bt137 => (if x3_2.length < 3518437208883 then (lambrequinref21_Of.j2 k2 l0 (x3_2 ++ [(⟨bt137.1, bt137.2⟩ : Fact)]) x4_1 t129 ((rd_T34 l0 x4_1).kind) ((rd_T34 l0 x4_1).x) ((rd_T34 l0 x4_1).y) ((rd_T34 l0 x4_1).z) ((rd_T34 l0 x4_1).op) ((rd_T34 l0 x4_1).n) ((rd_T34 l0 x4_1).a) ((rd_T34 l0 x4_1).b)) else (none)))) = some r := H
       have A30 := am A300
       clear A300
       replace H := Option.bind_eq_some_iff.mp H
       obtain ⟨⟨t134, t135, t136⟩, A310, H⟩ := H
       replace H : ((lambrequinref21_Two.f (⟨#[100, 101, 102]⟩ : ByteArray) t131 t132 t133 t134 t135 t136).bind fun bt137 => (if x3_2.length < 3518437208883 then (lambrequinref21_Of.j2 k2 l0 (x3_2 ++ [(⟨bt137.1, bt137.2⟩ : Fact)]) x4_1 t129 ((rd_T34 l0 x4_1).kind) ((rd_T34 l0 x4_1).x) ((rd_T34 l0 x4_1).y) ((rd_T34 l0 x4_1).z) ((rd_T34 l0 x4_1).op) ((rd_T34 l0 x4_1).n) ((rd_T34 l0 x4_1).a) ((rd_T34 l0 x4_1).b)) else (none))) = some r := H
       have A31 := am A310
       clear A310
       replace H := Option.bind_eq_some_iff.mp H
       obtain ⟨⟨t137, t138⟩, A320, H⟩ := H
       replace H : (if x3_2.length < 3518437208883 then (lambrequinref21_Of.j2 k2 l0 (x3_2 ++ [(⟨t137, t138⟩ : Fact)]) x4_1 t129 ((rd_T34 l0 x4_1).kind) ((rd_T34 l0 x4_1).x) ((rd_T34 l0 x4_1).y) ((rd_T34 l0 x4_1).z) ((rd_T34 l0 x4_1).op) ((rd_T34 l0 x4_1).n) ((rd_T34 l0 x4_1).a) ((rd_T34 l0 x4_1).b)) else (none)) = some r := H
       have A32 := am A320
       clear A320
       by_cases c33 : x3_2.length < 3518437208883
       ·rw [if_pos c33] at H
        have LMc33 := am c33
        clear c33
        obtain ⟨y141, hy141⟩ : ∃ y_ : List (Fact), y_ = (x3_2 ++ [(⟨t137, t138⟩ : Fact)]) := ⟨_, rfl⟩
        replace H : (lambrequinref21_Of.j2 k2 l0 y141 x4_1 t129 ((rd_T34 l0 x4_1).kind) ((rd_T34 l0 x4_1).x) ((rd_T34 l0 x4_1).y) ((rd_T34 l0 x4_1).z) ((rd_T34 l0 x4_1).op) ((rd_T34 l0 x4_1).n) ((rd_T34 l0 x4_1).a) ((rd_T34 l0 x4_1).b)) = some r := by first | (rw [hy141]; with_reducible exact H) | (have H2_ := (Option.bind_some _ _).symm.trans H; rw [hy141]; with_reducible exact H2_) | (have H2_ := (Option.bind_some _ _).symm.trans H; with_reducible exact H2_) | with_reducible exact H | (rw [hy141]; exact H) | exact H
        have Ny141 := am hy141
        clear hy141
        have H' := am H
        clear H
        go_wp2_with (first | ((with_reducible refine gate_callee (f := 15) rfl ?_); refine goesL_ (some 54) rfl rfl Tryz.func15 (by kernel_rfl) rfl #[.int .i64 x4_1] rfl gl_ ?_; (with_reducible refine (lambrequinref21_num.calls x4_1 t131 t132 t133 _ A30.out).mono ?_); rintro e w34 ⟨rfl, hb⟩; refine ⟨_, rfl, ?_⟩; replace HO_3 := am (Kd.N_below (by (with_reducible repeat (first | apply Kd.N_alloc | apply Kd.N_drewN | apply Kd.N_drew)); exact HO_3.out) hb); replace BK105 := am (bb_ BK105.out hb); replace HB := am (bs_ HB.out hb); (try clear hb); (try clear hb2); (try clear hk); (try clear hi)) | ((with_reducible refine gate_callee (f := 19) rfl ?_); refine goesL_ (some 56) rfl rfl Tryz.func19 (by kernel_rfl) rfl #[.string t129] rfl gl_ ?_; (with_reducible refine (lambrequinref21_sym.calls t129 t134 t135 t136 _ A31.out).mono ?_); rintro e w35 ⟨rfl, hb⟩; refine ⟨_, rfl, ?_⟩; replace HO_3 := am (Kd.N_below (by (with_reducible repeat (first | apply Kd.N_alloc | apply Kd.N_drewN | apply Kd.N_drew)); exact HO_3.out) hb); replace BK105 := am (bb_ BK105.out hb); replace HB := am (bs_ HB.out hb); (try clear hb); (try clear hb2); (try clear hk); (try clear hi)) | ((with_reducible refine gate_callee (f := 17) rfl ?_); refine goesL_ (some 57) rfl rfl Tryz.func17 (by kernel_rfl) rfl #[.string (⟨#[100, 101, 102]⟩ : ByteArray), .agg #[.bool t131, .string t132, .int .i64 t133], .agg #[.bool t134, .string t135, .int .i64 t136]] rfl gl_ ?_; (with_reducible refine (lambrequinref21_Two.calls (⟨#[100, 101, 102]⟩ : ByteArray) t131 t132 t133 t134 t135 t136 t137 t138 _ A32.out).mono ?_); rintro e w36 ⟨v139, rfl, ho0, hb⟩; refine ⟨_, rfl, ?_⟩; replace HO_3 := am (Kd.N_elder' (by (with_reducible repeat (first | apply Kd.N_alloc | apply Kd.N_drewN | apply Kd.N_drew)); exact HO_3.out) (Kd.R_base ho0) hb); have HO140 := am (Kd.R_lower (Kd.R_newM (M := fun k_ => (w.heap.size ≤ k_)) ho0 (below_size (pL HB.out)) (fun k_ h_ => h_)) (below_size (pL HB.out))); replace BK105 := am (bb_ BK105.out hb); replace HB := am (bs_ HB.out hb); (try clear hb); (try clear hb2); (try clear hk); (try clear hi); (try clear ho0); obtain ⟨Ao38, co38, eo38⟩ := Kd.R_slice HO140.out; subst eo38) | ((with_reducible refine gate_builtin (b := .append) (xs := #[.tmp 52, .tmp 58]) rfl ?_); at_builtin; refine Kd.N_append k26 (w0 := w) w.heap.size rfl (.tmp 52) (.tmp 58) 23 26 (.agg #[(.string ⟨#[]⟩), (.slice none 0 0)]) 40 rfl Tryz.underlying23 info26 rfl (by decide) (by omega) u3 x3_2 (⟨t137, t138⟩ : Fact) [.string t137, .slice Ao38 t138.length co38] (fun k_ => (w.heap.size ≤ k_) ∧ k_ ≠ gb105) (fun k_ => ((fun k_ => (w.heap.size ≤ k_) ∧ k_ ≠ gb105)) k_ ∧ some k_ ≠ (u3 : Value).ownBlock) rfl rfl ?aP (fun _ hk => hk) ?aF ?aO ?aB ?aS ?aL ?_; (case aP => exact (k26_mkF _ _ (⟨t137, t138⟩ : Fact) (Kd.R_reads' (Kd.R_mono (ok' := (fun k_ => ((fun k_ => (w.heap.size ≤ k_) ∧ k_ ≠ gb105)) k_ ∧ some k_ ≠ (u3 : Value).ownBlock)) (Kd.R_types (Kd.R_apart' (HO140.out) (Kd.N_typed HO_3.out) (by decide)) BK105.out (by decide)) (fun k_ hk => ⟨⟨hk.1.1.1, hk.2⟩, hk.1.2⟩))).2.1 (Kd.R_F (Kd.R_mono (ok' := (fun k_ => ((fun k_ => (w.heap.size ≤ k_) ∧ k_ ≠ gb105)) k_ ∧ some k_ ≠ (u3 : Value).ownBlock)) (Kd.R_types (Kd.R_apart' (HO140.out) (Kd.N_typed HO_3.out) (by decide)) BK105.out (by decide)) (fun k_ hk => ⟨⟨hk.1.1.1, hk.2⟩, hk.1.2⟩))))); (case aB => exact (pL HB.out)); (case aF => exact (fun k_ hk => ⟨(Nat.le_trans (below_size (pL HB.out)) hk), Kd.freshB (g := gb105) (pB BK105.out) k_ hk⟩)); (case aO => exact (by (with_reducible repeat (first | apply Kd.N_alloc | apply Kd.N_drewN | apply Kd.N_drew)); exact Kd.N_mono HO_3.out (fun _ hk => ⟨hk.1.1, hk.1.2⟩))); (case aS => exact (below_size (pL HB.out))); (case aL => have := LMc33.out; omega); intro v142 w37 ho hb hg hat; rw [← Ny141.out] at ho; replace BK105 := am (blk_grown (pB BK105.out) hg (Kd.N_ne HO_3.out BK105.out (by decide))); replace HB := am (hb); have HO143 := am (ho); clear HO_3 HO140; clear ho hb hg hat))
        go_meet
        case rel => exact ⟨_, (y141), H', ⟨by have := HK1.out; have := HK2.out; first | omega | exact Nat.le_refl _⟩, ⟨by (with_reducible repeat (first | apply Kd.N_alloc | apply Kd.N_drewN | apply Kd.N_drew)); exact HO143.out⟩, ⟨pB BK105.out⟩, ⟨pL HB.out⟩⟩
       rw [if_neg c33] at H
       exact absurd H (by simp)
      replace c29 := Bool.eq_false_iff.mpr c29
      subst c29
      have H1 : (lambrequinref21_Of.j2 k2 l0 x3_2 x4_1 t129 ((rd_T34 l0 x4_1).kind) ((rd_T34 l0 x4_1).x) ((rd_T34 l0 x4_1).y) ((rd_T34 l0 x4_1).z) ((rd_T34 l0 x4_1).op) ((rd_T34 l0 x4_1).n) ((rd_T34 l0 x4_1).a) ((rd_T34 l0 x4_1).b)) = some r := by rw [if_neg (show ¬ (false = true) by decide)] at H; exact H
      clear H
      have H := H1
      clear H1
      have H' := am H
      clear H
      go_wp2
      go_meet
      case rel => exact ⟨_, (x3_2), H', ⟨by have := HK1.out; have := HK2.out; first | omega | exact Nat.le_refl _⟩, ⟨by (with_reducible repeat (first | apply Kd.N_alloc | apply Kd.N_drewN | apply Kd.N_drew)); exact HO_3.out⟩, ⟨pB BK105.out⟩, ⟨pL HB.out⟩⟩
     case rest =>
      clear HC26
      try clear c1
      try clear p1
      try clear q1
      try clear hx1
      try clear c2
      try clear c2b0
      try clear p2
      try clear c3
      try clear c3b0
      try clear c5
      try clear p6
      try clear c7
      try clear p10
      try clear q10
      try clear hx10
      try clear c13
      try clear c13b0
      try clear c15
      try clear c16
      try clear c17
      try clear c18
      try clear c19
      try clear c29
      try clear c33
      try clear hcz27_0
      try clear hcz27_1
      try clear hcz27_2
      try clear hcz27_3
      try clear hcz27_4
      try clear hcz27_5
      try clear hcz27_6
      try clear hcz27_7
      try clear hcz7_0
      try clear hcz7_1
      try clear hcz7_2
      try clear hcz7_3
      try clear hcz7_4
      try clear hcz7_5
      try clear hcz7_6
      try clear hcz7_7
      try clear hfz27_0
      try clear hfz27_1
      try clear hfz27_2
      try clear hfz27_3
      try clear hfz27_4
      try clear hfz27_5
      try clear hfz27_6
      try clear hfz27_7
      try clear hfz7_0
      try clear hfz7_1
      try clear hfz7_2
      try clear hfz7_3
      try clear hfz7_4
      try clear hfz7_5
      try clear hfz7_6
      try clear hfz7_7
      try clear hx104_0
      try clear hx104_1
      try clear hx104_2
      try clear hx104_3
      try clear hx104_4
      try clear hx104_5
      try clear hx104_6
      try clear hx104_7
      try clear p1
      try clear p10
      try clear p104
      try clear p2
      try clear q1
      try clear q10
      try clear q104
      obtain ⟨kq, x3_25, HA, HJ25, HO_3, BK105, HB⟩ := hcut
      cases kq with
      | zero => exact absurd HA.out (by simp [lambrequinref21_Of.j2])
      | succ kj25 =>
       have H := HA.out
       clear HA
       simp only [lambrequinref21_Of.j2] at H
       have HC39 := am H
       clear H
       obtain ⟨hcz40_0, hcz40_1, hcz40_2, hcz40_3, hcz40_4, hcz40_5, hcz40_6, hcz40_7, hfz40_0, hfz40_1, hfz40_2, hfz40_3, hfz40_4, hfz40_5, hfz40_6, hfz40_7⟩ := bc8 BK105.out
       go_upto_if 62 with (fail)
       go_cut [3] (fun v3 wc => ∃ (kq : Nat) (x3_38 : List (Fact)), Aside0 (lambrequinref21_Of.j3 kq l0 x3_38 x4_1 t129 ((rd_T34 l0 x4_1).kind) ((rd_T34 l0 x4_1).x) ((rd_T34 l0 x4_1).y) ((rd_T34 l0 x4_1).z) ((rd_T34 l0 x4_1).op) ((rd_T34 l0 x4_1).n) ((rd_T34 l0 x4_1).a) ((rd_T34 l0 x4_1).b) = some r) ∧ Aside0 (kq ≤ kj25) ∧ Aside0 (Kd.N k26 26 wc w.heap.size (fun k_ => (w.heap.size ≤ k_) ∧ k_ ≠ gb105) v3 x3_38) ∧ Aside0 (wc.heap[gb105]? = some (.cells #[.int .i64 ((rd_T34 l0 x4_1).kind), .string ((rd_T34 l0 x4_1).x), .string ((rd_T34 l0 x4_1).y), .string ((rd_T34 l0 x4_1).z), .string ((rd_T34 l0 x4_1).op), .int .i64 ((rd_T34 l0 x4_1).n), .int .i64 ((rd_T34 l0 x4_1).a), .int .i64 ((rd_T34 l0 x4_1).b)] 34 (0, 0))) ∧ Aside0 (Below w.heap.size w wc))
       case first =>
        have H := HC39.out
        clear HC39
        by_cases c41 : ((rd_T34 l0 x4_1).kind) = 4
        ·rw [if_pos c41] at H
         have c41b0 : (((rd_T34 l0 x4_1).kind) == 4) = true := beq_iff_eq.mpr c41
         have c41b1 : (((rd_T34 l0 x4_1).kind) != 4) = false := bne_eq_false_iff_eq.mpr c41
         clear c41
         (first | rw [c41b0] | (simp only [i64_w, i32_w]; rw [c41b0]) | skip)
         replace H := Option.bind_eq_some_iff.mp H
         obtain ⟨⟨t144, t145, t146⟩, A420, H⟩ := H
         replace H : ((lambrequinref21_sym.f t129).bind fun bt147 => ((lambrequinref21_Two.f (⟨#[115, 111, 117, 114, 99, 101]⟩ : ByteArray) t144 t145 t146 bt147.1 bt147.2.1 bt147.2.2).bind fun bt150 => (if x3_25.length < 3518437208883 then (lambrequinref21_Of.j3 kj25 l0 (x3_25 ++ [(⟨bt150.1, bt150.2⟩ : Fact)]) x4_1 t129 ((rd_T34 l0 x4_1).kind) ((rd_T34 l0 x4_1).x) ((rd_T34 l0 x4_1).y) ((rd_T34 l0 x4_1).z) ((rd_T34 l0 x4_1).op) ((rd_T34 l0 x4_1).n) ((rd_T34 l0 x4_1).a) ((rd_T34 l0 x4_1).b)) else (none)))) = some r := H
         have A42 := am A420
         clear A420
         replace H := Option.bind_eq_some_iff.mp H
         obtain ⟨⟨t147, t148, t149⟩, A430, H⟩ := H
         replace H : ((lambrequinref21_Two.f (⟨#[115, 111, 117, 114, 99, 101]⟩ : ByteArray) t144 t145 t146 t147 t148 t149).bind fun bt150 => (if x3_25.length < 3518437208883 then (lambrequinref21_Of.j3 kj25 l0 (x3_25 ++ [(⟨bt150.1, bt150.2⟩ : Fact)]) x4_1 t129 ((rd_T34 l0 x4_1).kind) ((rd_T34 l0 x4_1).x) ((rd_T34 l0 x4_1).y) ((rd_T34 l0 x4_1).z) ((rd_T34 l0 x4_1).op) ((rd_T34 l0 x4_1).n) ((rd_T34 l0 x4_1).a) ((rd_T34 l0 x4_1).b)) else (none))) = some r := H
         have A43 := am A430
         clear A430
         replace H := Option.bind_eq_some_iff.mp H
         obtain ⟨⟨t150, t151⟩, A440, H⟩ := H
         replace H : (if x3_25.length < 3518437208883 then (lambrequinref21_Of.j3 kj25 l0 (x3_25 ++ [(⟨t150, t151⟩ : Fact)]) x4_1 t129 ((rd_T34 l0 x4_1).kind) ((rd_T34 l0 x4_1).x) ((rd_T34 l0 x4_1).y) ((rd_T34 l0 x4_1).z) ((rd_T34 l0 x4_1).op) ((rd_T34 l0 x4_1).n) ((rd_T34 l0 x4_1).a) ((rd_T34 l0 x4_1).b)) else (none)) = some r := H
         have A44 := am A440
         clear A440
         by_cases c45 : x3_25.length < 3518437208883
         ·rw [if_pos c45] at H
          have LMc45 := am c45
          clear c45
          obtain ⟨y154, hy154⟩ : ∃ y_ : List (Fact), y_ = (x3_25 ++ [(⟨t150, t151⟩ : Fact)]) := ⟨_, rfl⟩
          replace H : (lambrequinref21_Of.j3 kj25 l0 y154 x4_1 t129 ((rd_T34 l0 x4_1).kind) ((rd_T34 l0 x4_1).x) ((rd_T34 l0 x4_1).y) ((rd_T34 l0 x4_1).z) ((rd_T34 l0 x4_1).op) ((rd_T34 l0 x4_1).n) ((rd_T34 l0 x4_1).a) ((rd_T34 l0 x4_1).b)) = some r := by first | (rw [hy154]; with_reducible exact H) | (have H2_ := (Option.bind_some _ _).symm.trans H; rw [hy154]; with_reducible exact H2_) | (have H2_ := (Option.bind_some _ _).symm.trans H; with_reducible exact H2_) | with_reducible exact H | (rw [hy154]; exact H) | exact H
          have Ny154 := am hy154
          clear hy154
          have H' := am H
          clear H
          go_wp2_with (first | ((with_reducible refine gate_callee (f := 15) rfl ?_); refine goesL_ (some 65) rfl rfl Tryz.func15 (by kernel_rfl) rfl #[.int .i64 x4_1] rfl gl_ ?_; (with_reducible refine (lambrequinref21_num.calls x4_1 t144 t145 t146 _ A42.out).mono ?_); rintro e w46 ⟨rfl, hb⟩; refine ⟨_, rfl, ?_⟩; replace HO_3 := am (Kd.N_below (by (with_reducible repeat (first | apply Kd.N_alloc | apply Kd.N_drewN | apply Kd.N_drew)); exact HO_3.out) hb); replace BK105 := am (bb_ BK105.out hb); replace HB := am (bs_ HB.out hb); (try clear hb); (try clear hb2); (try clear hk); (try clear hi)) | ((with_reducible refine gate_callee (f := 19) rfl ?_); refine goesL_ (some 67) rfl rfl Tryz.func19 (by kernel_rfl) rfl #[.string t129] rfl gl_ ?_; (with_reducible refine (lambrequinref21_sym.calls t129 t147 t148 t149 _ A43.out).mono ?_); rintro e w47 ⟨rfl, hb⟩; refine ⟨_, rfl, ?_⟩; replace HO_3 := am (Kd.N_below (by (with_reducible repeat (first | apply Kd.N_alloc | apply Kd.N_drewN | apply Kd.N_drew)); exact HO_3.out) hb); replace BK105 := am (bb_ BK105.out hb); replace HB := am (bs_ HB.out hb); (try clear hb); (try clear hb2); (try clear hk); (try clear hi)) | ((with_reducible refine gate_callee (f := 17) rfl ?_); refine goesL_ (some 68) rfl rfl Tryz.func17 (by kernel_rfl) rfl #[.string (⟨#[115, 111, 117, 114, 99, 101]⟩ : ByteArray), .agg #[.bool t144, .string t145, .int .i64 t146], .agg #[.bool t147, .string t148, .int .i64 t149]] rfl gl_ ?_; (with_reducible refine (lambrequinref21_Two.calls (⟨#[115, 111, 117, 114, 99, 101]⟩ : ByteArray) t144 t145 t146 t147 t148 t149 t150 t151 _ A44.out).mono ?_); rintro e w48 ⟨v152, rfl, ho0, hb⟩; refine ⟨_, rfl, ?_⟩; replace HO_3 := am (Kd.N_elder' (by (with_reducible repeat (first | apply Kd.N_alloc | apply Kd.N_drewN | apply Kd.N_drew)); exact HO_3.out) (Kd.R_base ho0) hb); have HO153 := am (Kd.R_lower (Kd.R_newM (M := fun k_ => (w.heap.size ≤ k_)) ho0 (below_size (pL HB.out)) (fun k_ h_ => h_)) (below_size (pL HB.out))); replace BK105 := am (bb_ BK105.out hb); replace HB := am (bs_ HB.out hb); (try clear hb); (try clear hb2); (try clear hk); (try clear hi); (try clear ho0); obtain ⟨Ao50, co50, eo50⟩ := Kd.R_slice HO153.out; subst eo50) | ((with_reducible refine gate_builtin (b := .append) (xs := #[.tmp 63, .tmp 69]) rfl ?_); at_builtin; refine Kd.N_append k26 (w0 := w) w.heap.size rfl (.tmp 63) (.tmp 69) 23 26 (.agg #[(.string ⟨#[]⟩), (.slice none 0 0)]) 40 rfl Tryz.underlying23 info26 rfl (by decide) (by omega) u3 x3_25 (⟨t150, t151⟩ : Fact) [.string t150, .slice Ao50 t151.length co50] (fun k_ => (w.heap.size ≤ k_) ∧ k_ ≠ gb105) (fun k_ => ((fun k_ => (w.heap.size ≤ k_) ∧ k_ ≠ gb105)) k_ ∧ some k_ ≠ (u3 : Value).ownBlock) rfl rfl ?aP (fun _ hk => hk) ?aF ?aO ?aB ?aS ?aL ?_; (case aP => exact (k26_mkF _ _ (⟨t150, t151⟩ : Fact) (Kd.R_reads' (Kd.R_mono (ok' := (fun k_ => ((fun k_ => (w.heap.size ≤ k_) ∧ k_ ≠ gb105)) k_ ∧ some k_ ≠ (u3 : Value).ownBlock)) (Kd.R_types (Kd.R_apart' (HO153.out) (Kd.N_typed HO_3.out) (by decide)) BK105.out (by decide)) (fun k_ hk => ⟨⟨hk.1.1.1, hk.2⟩, hk.1.2⟩))).2.1 (Kd.R_F (Kd.R_mono (ok' := (fun k_ => ((fun k_ => (w.heap.size ≤ k_) ∧ k_ ≠ gb105)) k_ ∧ some k_ ≠ (u3 : Value).ownBlock)) (Kd.R_types (Kd.R_apart' (HO153.out) (Kd.N_typed HO_3.out) (by decide)) BK105.out (by decide)) (fun k_ hk => ⟨⟨hk.1.1.1, hk.2⟩, hk.1.2⟩))))); (case aB => exact (pL HB.out)); (case aF => exact (fun k_ hk => ⟨(Nat.le_trans (below_size (pL HB.out)) hk), Kd.freshB (g := gb105) (pB BK105.out) k_ hk⟩)); (case aO => exact (by (with_reducible repeat (first | apply Kd.N_alloc | apply Kd.N_drewN | apply Kd.N_drew)); exact Kd.N_mono HO_3.out (fun _ hk => ⟨hk.1.1, hk.1.2⟩))); (case aS => exact (below_size (pL HB.out))); (case aL => have := LMc45.out; omega); intro v155 w49 ho hb hg hat; rw [← Ny154.out] at ho; replace BK105 := am (blk_grown (pB BK105.out) hg (Kd.N_ne HO_3.out BK105.out (by decide))); replace HB := am (hb); have HO156 := am (ho); clear HO_3 HO153; clear ho hb hg hat))
          go_meet
          case rel => exact ⟨_, (y154), H', ⟨by have := HK1.out; have := HK2.out; have := HJ25.out; first | omega | exact Nat.le_refl _⟩, ⟨by (with_reducible repeat (first | apply Kd.N_alloc | apply Kd.N_drewN | apply Kd.N_drew)); exact HO156.out⟩, ⟨pB BK105.out⟩, ⟨pL HB.out⟩⟩
         rw [if_neg c45] at H
         exact absurd H (by simp)
        rw [if_neg c41] at H
        have c41b0 : (((rd_T34 l0 x4_1).kind) == 4) = false := beq_eq_false_iff_ne.mpr c41
        have c41b1 : (((rd_T34 l0 x4_1).kind) != 4) = true := bne_iff_ne.mpr c41
        (first | rw [c41b0] | (simp only [i64_w, i32_w]; rw [c41b0]) | skip)
        have H' := am H
        clear H
        go_wp2
        go_meet
        case rel => exact ⟨_, (x3_25), H', ⟨by have := HK1.out; have := HK2.out; have := HJ25.out; first | omega | exact Nat.le_refl _⟩, ⟨by (with_reducible repeat (first | apply Kd.N_alloc | apply Kd.N_drewN | apply Kd.N_drew)); exact HO_3.out⟩, ⟨pB BK105.out⟩, ⟨pL HB.out⟩⟩
       case rest =>
        clear HC39
        try clear c1
        try clear p1
        try clear q1
        try clear hx1
        try clear c2
        try clear c2b0
        try clear p2
        try clear c3
        try clear c3b0
        try clear c4
        try clear c5
        try clear p6
        try clear c7
        try clear p10
        try clear q10
        try clear hx10
        try clear c13
        try clear c13b0
        try clear c15
        try clear c16
        try clear c17
        try clear c18
        try clear c19
        try clear c29
        try clear c33
        try clear c41
        try clear c41b0
        try clear c41b1
        try clear c45
        try clear hcz27_0
        try clear hcz27_1
        try clear hcz27_2
        try clear hcz27_3
        try clear hcz27_4
        try clear hcz27_5
        try clear hcz27_6
        try clear hcz27_7
        try clear hcz40_0
        try clear hcz40_1
        try clear hcz40_2
        try clear hcz40_3
        try clear hcz40_4
        try clear hcz40_5
        try clear hcz40_6
        try clear hcz40_7
        try clear hcz7_0
        try clear hcz7_1
        try clear hcz7_2
        try clear hcz7_3
        try clear hcz7_4
        try clear hcz7_5
        try clear hcz7_6
        try clear hcz7_7
        try clear hfz27_0
        try clear hfz27_1
        try clear hfz27_2
        try clear hfz27_3
        try clear hfz27_4
        try clear hfz27_5
        try clear hfz27_6
        try clear hfz27_7
        try clear hfz40_0
        try clear hfz40_1
        try clear hfz40_2
        try clear hfz40_3
        try clear hfz40_4
        try clear hfz40_5
        try clear hfz40_6
        try clear hfz40_7
        try clear hfz7_0
        try clear hfz7_1
        try clear hfz7_2
        try clear hfz7_3
        try clear hfz7_4
        try clear hfz7_5
        try clear hfz7_6
        try clear hfz7_7
        try clear hx104_0
        try clear hx104_1
        try clear hx104_2
        try clear hx104_3
        try clear hx104_4
        try clear hx104_5
        try clear hx104_6
        try clear hx104_7
        try clear p1
        try clear p10
        try clear p104
        try clear p2
        try clear p6
        try clear q1
        try clear q10
        try clear q104
        obtain ⟨kq, x3_38, HA, HJ38, HO_3, BK105, HB⟩ := hcut
        cases kq with
        | zero => exact absurd HA.out (by simp [lambrequinref21_Of.j3])
        | succ kj38 =>
         have H := HA.out
         clear HA
         simp only [lambrequinref21_Of.j3] at H
         replace H := Option.bind_eq_some_iff.mp H
         obtain ⟨t157, A510, H⟩ := H
         replace H : (lambrequinref21_Of.l2 kj38 l0 x3_38 x4_1 t129 t157 0 ((rd_T34 l0 x4_1).kind) ((rd_T34 l0 x4_1).x) ((rd_T34 l0 x4_1).y) ((rd_T34 l0 x4_1).z) ((rd_T34 l0 x4_1).op) ((rd_T34 l0 x4_1).n) ((rd_T34 l0 x4_1).a) ((rd_T34 l0 x4_1).b)) = some r := H
         have A51 := am A510
         clear A510
         have H' := am H
         clear H
         obtain ⟨hcz52_0, hcz52_1, hcz52_2, hcz52_3, hcz52_4, hcz52_5, hcz52_6, hcz52_7, hfz52_0, hfz52_1, hfz52_2, hfz52_3, hfz52_4, hfz52_5, hfz52_6, hfz52_7⟩ := bc8 BK105.out
         go_wp2_with (first | ((with_reducible refine gate_callee (f := 20) rfl ?_); refine goesL_ (some 72) rfl rfl Tryz.func20 (by kernel_rfl) rfl #[.agg #[.int .i64 ((rd_T34 l0 x4_1).kind), .string ((rd_T34 l0 x4_1).x), .string ((rd_T34 l0 x4_1).y), .string ((rd_T34 l0 x4_1).z), .string ((rd_T34 l0 x4_1).op), .int .i64 ((rd_T34 l0 x4_1).n), .int .i64 ((rd_T34 l0 x4_1).a), .int .i64 ((rd_T34 l0 x4_1).b)]] rfl gl_ ?_; (with_reducible refine (lambrequinref20_Uses.calls kj38 ((rd_T34 l0 x4_1).kind) ((rd_T34 l0 x4_1).x) ((rd_T34 l0 x4_1).y) ((rd_T34 l0 x4_1).z) ((rd_T34 l0 x4_1).op) ((rd_T34 l0 x4_1).n) ((rd_T34 l0 x4_1).a) ((rd_T34 l0 x4_1).b) t157 _ A51.out).mono ?_); rintro e w53 ⟨v158, rfl, ho0, hb⟩; refine ⟨_, rfl, ?_⟩; replace HO_3 := am (Kd.N_elder' (by (with_reducible repeat (first | apply Kd.N_alloc | apply Kd.N_drewN | apply Kd.N_drew)); exact HO_3.out) (Kd.R_base ho0) hb); have HO159 := am (Kd.R_lower (Kd.R_newM (M := fun k_ => (w.heap.size ≤ k_)) ho0 (below_size (pL HB.out)) (fun k_ h_ => h_)) (below_size (pL HB.out))); replace BK105 := am (bb_ BK105.out hb); replace HB := am (bs_ HB.out hb); (try clear hb); (try clear hb2); (try clear hk); (try clear hi); (try clear ho0)))
         go_loopg [3, 10] kj38 (fun kq v3 v10 w' => ∃ (x3_5 : List (Fact)) (x10_5 : Int), v10 = .int .i64 x10_5 ∧ Aside0 (lambrequinref21_Of.l2 kq l0 x3_5 x4_1 t129 t157 x10_5 ((rd_T34 l0 x4_1).kind) ((rd_T34 l0 x4_1).x) ((rd_T34 l0 x4_1).y) ((rd_T34 l0 x4_1).z) ((rd_T34 l0 x4_1).op) ((rd_T34 l0 x4_1).n) ((rd_T34 l0 x4_1).a) ((rd_T34 l0 x4_1).b) = some r) ∧ Aside0 (kq ≤ kj38) ∧ Aside0 (Kd.N k26 26 w' w.heap.size (fun k_ => (w.heap.size ≤ k_) ∧ some k_ ≠ (v158 : Value).ownBlock ∧ k_ ≠ gb105) v3 x3_5) ∧ Aside0 (Kd.R Kd.string 9 w' w.heap.size (fun k_ => (w.heap.size ≤ k_)) v158 t157) ∧ Aside0 (w'.heap[gb105]? = some (.cells #[.int .i64 ((rd_T34 l0 x4_1).kind), .string ((rd_T34 l0 x4_1).x), .string ((rd_T34 l0 x4_1).y), .string ((rd_T34 l0 x4_1).z), .string ((rd_T34 l0 x4_1).op), .int .i64 ((rd_T34 l0 x4_1).n), .int .i64 ((rd_T34 l0 x4_1).a), .int .i64 ((rd_T34 l0 x4_1).b)] 34 (0, 0))) ∧ Aside0 (Below w.heap.size w w'))
         case atStart => exact ⟨(x3_38), (0), rs_, H', ⟨Nat.le_refl _⟩, ⟨by (with_reducible repeat (first | apply Kd.N_alloc | apply Kd.N_drewN | apply Kd.N_drew)); exact Kd.N_mono HO_3.out (fun _ hk => ⟨hk.1.1, ⟨hk.2, hk.1.2⟩⟩)⟩, ⟨by (with_reducible repeat (first | apply Ra | apply Rn | apply Rd)); exact Kd.R_mono HO159.out (fun _ hk => hk.1)⟩, ⟨pB BK105.out⟩, ⟨pL HB.out⟩⟩
         case round =>
          clear H'
          try clear c1
          try clear p1
          try clear q1
          try clear hx1
          try clear c2
          try clear c2b0
          try clear p2
          try clear c3
          try clear c3b0
          try clear c4
          try clear c5
          try clear p6
          try clear c7
          try clear p10
          try clear q10
          try clear hx10
          try clear c13
          try clear c13b0
          try clear c15
          try clear c16
          try clear c17
          try clear c18
          try clear c19
          try clear c20
          try clear c29
          try clear c33
          try clear c41
          try clear c41b0
          try clear c41b1
          try clear c45
          try clear hcz27_0
          try clear hcz27_1
          try clear hcz27_2
          try clear hcz27_3
          try clear hcz27_4
          try clear hcz27_5
          try clear hcz27_6
          try clear hcz27_7
          try clear hcz40_0
          try clear hcz40_1
          try clear hcz40_2
          try clear hcz40_3
          try clear hcz40_4
          try clear hcz40_5
          try clear hcz40_6
          try clear hcz40_7
          try clear hcz52_0
          try clear hcz52_1
          try clear hcz52_2
          try clear hcz52_3
          try clear hcz52_4
          try clear hcz52_5
          try clear hcz52_6
          try clear hcz52_7
          try clear hcz7_0
          try clear hcz7_1
          try clear hcz7_2
          try clear hcz7_3
          try clear hcz7_4
          try clear hcz7_5
          try clear hcz7_6
          try clear hcz7_7
          try clear hfz27_0
          try clear hfz27_1
          try clear hfz27_2
          try clear hfz27_3
          try clear hfz27_4
          try clear hfz27_5
          try clear hfz27_6
          try clear hfz27_7
          try clear hfz40_0
          try clear hfz40_1
          try clear hfz40_2
          try clear hfz40_3
          try clear hfz40_4
          try clear hfz40_5
          try clear hfz40_6
          try clear hfz40_7
          try clear hfz52_0
          try clear hfz52_1
          try clear hfz52_2
          try clear hfz52_3
          try clear hfz52_4
          try clear hfz52_5
          try clear hfz52_6
          try clear hfz52_7
          try clear hfz7_0
          try clear hfz7_1
          try clear hfz7_2
          try clear hfz7_3
          try clear hfz7_4
          try clear hfz7_5
          try clear hfz7_6
          try clear hfz7_7
          try clear hx104_0
          try clear hx104_1
          try clear hx104_2
          try clear hx104_3
          try clear hx104_4
          try clear hx104_5
          try clear hx104_6
          try clear hx104_7
          try clear p1
          try clear p10
          try clear p104
          try clear p2
          try clear p6
          try clear q1
          try clear q10
          try clear q104
          obtain ⟨x3_5, x10_5, rfl, HA, HK5, HO_3, HO_9, BK105, HB⟩ := hrel
          cases gk with
          | zero => exact absurd HA.out (by simp [lambrequinref21_Of.l2])
          | succ k5 =>
           have H := HA.out
           clear HA
           simp only [lambrequinref21_Of.l2] at H
           by_cases c54 : x10_5 < (t157.length : Int)
           rotate_left
           ·rw [if_neg c54] at H
            have c54b0 : decide (x10_5 < (t157.length : Int)) = false := decide_eq_false c54
            clear c54
            have H' := am H
            clear H
            obtain ⟨Ao99, co99, eo99⟩ := Kd.R_slice HO_9.out
            subst eo99
            go_wp2
            go_roundg k5
            case measure => have := HK1.out; have := HK2.out; have := HJ25.out; have := HJ38.out; have := HK5.out; omega
            case rel => exact ⟨(x3_5), (wrap64 (x4_1 + 1)), rs_, H', ⟨by have := HK1.out; have := HK2.out; have := HJ25.out; have := HJ38.out; have := HK5.out; omega⟩, ⟨by (with_reducible repeat (first | apply Kd.N_alloc | apply Kd.N_drewN | apply Kd.N_drew)); exact Kd.N_mono HO_3.out (fun _ hk => hk.1)⟩, ⟨pL HB.out⟩⟩
           rw [if_pos c54] at H
           have c54b0 : decide (x10_5 < (t157.length : Int)) = true := decide_eq_true c54
           clear c54
           replace H := Option.bind_eq_some_iff.mp H
           obtain ⟨⟨t160, t161, t162⟩, A550, H⟩ := H
           replace H : (if 0 ≤ x10_5 then ((lambrequinref21_sym.f (rdOf ByteArray.empty t157 x10_5)).bind fun bt164 => ((lambrequinref21_Two.f (⟨#[117, 115, 101]⟩ : ByteArray) t160 t161 t162 bt164.1 bt164.2.1 bt164.2.2).bind fun bt167 => (if x3_5.length < 3518437208883 then ((some (x3_5 ++ [(⟨bt167.1, bt167.2⟩ : Fact)] : List (Fact))).bind fun y171 => (if ((rd_T34 l0 x4_1).kind) = 6 then ((lambrequinref21_num.f x4_1).bind fun bt174 => ((lambrequinref21_sym.f (rdOf ByteArray.empty t157 x10_5)).bind fun bt178 => ((lambrequinref21_Two.f (⟨#[115, 105, 110, 107]⟩ : ByteArray) bt174.1 bt174.2.1 bt174.2.2 bt178.1 bt178.2.1 bt178.2.2).bind fun bt181 => (if y171.length < 3518437208883 then (lambrequinref21_Of.j5 k5 l0 (y171 ++ [(⟨bt181.1, bt181.2⟩ : Fact)]) x4_1 t129 t157 x10_5 ((rd_T34 l0 x4_1).kind) ((rd_T34 l0 x4_1).x) ((rd_T34 l0 x4_1).y) ((rd_T34 l0 x4_1).z) ((rd_T34 l0 x4_1).op) ((rd_T34 l0 x4_1).n) ((rd_T34 l0 x4_1).a) ((rd_T34 l0 x4_1).b)) else (none))))) else (lambrequinref21_Of.j5 k5 l0 y171 x4_1 t129 t157 x10_5 ((rd_T34 l0 x4_1).kind) ((rd_T34 l0 x4_1).x) ((rd_T34 l0 x4_1).y) ((rd_T34 l0 x4_1).z) ((rd_T34 l0 x4_1).op) ((rd_T34 l0 x4_1).n) ((rd_T34 l0 x4_1).a) ((rd_T34 l0 x4_1).b)))) else (none)))) else (none)) = some r := H
           have A55 := am A550
           clear A550
           by_cases c56 : 0 ≤ x10_5
           rotate_left
           ·rw [if_neg c56] at H
            exact absurd H (by simp)
           rw [if_pos c56] at H
           have c56b0 : decide (0 ≤ x10_5) = true := decide_eq_true c56
           clear c56
           replace H := Option.bind_eq_some_iff.mp H
           obtain ⟨⟨t164, t165, t166⟩, A570, H⟩ := H
           replace H : ((lambrequinref21_Two.f (⟨#[117, 115, 101]⟩ : ByteArray) t160 t161 t162 t164 t165 t166).bind fun bt167 => (if x3_5.length < 3518437208883 then ((some (x3_5 ++ [(⟨bt167.1, bt167.2⟩ : Fact)] : List (Fact))).bind fun y171 => (if ((rd_T34 l0 x4_1).kind) = 6 then ((lambrequinref21_num.f x4_1).bind fun bt174 => ((lambrequinref21_sym.f (rdOf ByteArray.empty t157 x10_5)).bind fun bt178 => ((lambrequinref21_Two.f (⟨#[115, 105, 110, 107]⟩ : ByteArray) bt174.1 bt174.2.1 bt174.2.2 bt178.1 bt178.2.1 bt178.2.2).bind fun bt181 => (if y171.length < 3518437208883 then (lambrequinref21_Of.j5 k5 l0 (y171 ++ [(⟨bt181.1, bt181.2⟩ : Fact)]) x4_1 t129 t157 x10_5 ((rd_T34 l0 x4_1).kind) ((rd_T34 l0 x4_1).x) ((rd_T34 l0 x4_1).y) ((rd_T34 l0 x4_1).z) ((rd_T34 l0 x4_1).op) ((rd_T34 l0 x4_1).n) ((rd_T34 l0 x4_1).a) ((rd_T34 l0 x4_1).b)) else (none))))) else (lambrequinref21_Of.j5 k5 l0 y171 x4_1 t129 t157 x10_5 ((rd_T34 l0 x4_1).kind) ((rd_T34 l0 x4_1).x) ((rd_T34 l0 x4_1).y) ((rd_T34 l0 x4_1).z) ((rd_T34 l0 x4_1).op) ((rd_T34 l0 x4_1).n) ((rd_T34 l0 x4_1).a) ((rd_T34 l0 x4_1).b)))) else (none))) = some r := H
           have A57 := am A570
           clear A570
           replace H := Option.bind_eq_some_iff.mp H
           obtain ⟨⟨t167, t168⟩, A580, H⟩ := H
           replace H : (if x3_5.length < 3518437208883 then ((some (x3_5 ++ [(⟨t167, t168⟩ : Fact)] : List (Fact))).bind fun y171 => (if ((rd_T34 l0 x4_1).kind) = 6 then ((lambrequinref21_num.f x4_1).bind fun bt174 => ((lambrequinref21_sym.f (rdOf ByteArray.empty t157 x10_5)).bind fun bt178 => ((lambrequinref21_Two.f (⟨#[115, 105, 110, 107]⟩ : ByteArray) bt174.1 bt174.2.1 bt174.2.2 bt178.1 bt178.2.1 bt178.2.2).bind fun bt181 => (if y171.length < 3518437208883 then (lambrequinref21_Of.j5 k5 l0 (y171 ++ [(⟨bt181.1, bt181.2⟩ : Fact)]) x4_1 t129 t157 x10_5 ((rd_T34 l0 x4_1).kind) ((rd_T34 l0 x4_1).x) ((rd_T34 l0 x4_1).y) ((rd_T34 l0 x4_1).z) ((rd_T34 l0 x4_1).op) ((rd_T34 l0 x4_1).n) ((rd_T34 l0 x4_1).a) ((rd_T34 l0 x4_1).b)) else (none))))) else (lambrequinref21_Of.j5 k5 l0 y171 x4_1 t129 t157 x10_5 ((rd_T34 l0 x4_1).kind) ((rd_T34 l0 x4_1).x) ((rd_T34 l0 x4_1).y) ((rd_T34 l0 x4_1).z) ((rd_T34 l0 x4_1).op) ((rd_T34 l0 x4_1).n) ((rd_T34 l0 x4_1).a) ((rd_T34 l0 x4_1).b)))) else (none)) = some r := H
           have A58 := am A580
           clear A580
           by_cases c59 : x3_5.length < 3518437208883
           rotate_left
           ·rw [if_neg c59] at H
            exact absurd H (by simp)
           rw [if_pos c59] at H
           have LMc59 := am c59
           clear c59
           obtain ⟨y171, hy171⟩ : ∃ y_ : List (Fact), y_ = (x3_5 ++ [(⟨t167, t168⟩ : Fact)]) := ⟨_, rfl⟩
           replace H : (if ((rd_T34 l0 x4_1).kind) = 6 then ((lambrequinref21_num.f x4_1).bind fun bt174 => ((lambrequinref21_sym.f (rdOf ByteArray.empty t157 x10_5)).bind fun bt178 => ((lambrequinref21_Two.f (⟨#[115, 105, 110, 107]⟩ : ByteArray) bt174.1 bt174.2.1 bt174.2.2 bt178.1 bt178.2.1 bt178.2.2).bind fun bt181 => (if y171.length < 3518437208883 then (lambrequinref21_Of.j5 k5 l0 (y171 ++ [(⟨bt181.1, bt181.2⟩ : Fact)]) x4_1 t129 t157 x10_5 ((rd_T34 l0 x4_1).kind) ((rd_T34 l0 x4_1).x) ((rd_T34 l0 x4_1).y) ((rd_T34 l0 x4_1).z) ((rd_T34 l0 x4_1).op) ((rd_T34 l0 x4_1).n) ((rd_T34 l0 x4_1).a) ((rd_T34 l0 x4_1).b)) else (none))))) else (lambrequinref21_Of.j5 k5 l0 y171 x4_1 t129 t157 x10_5 ((rd_T34 l0 x4_1).kind) ((rd_T34 l0 x4_1).x) ((rd_T34 l0 x4_1).y) ((rd_T34 l0 x4_1).z) ((rd_T34 l0 x4_1).op) ((rd_T34 l0 x4_1).n) ((rd_T34 l0 x4_1).a) ((rd_T34 l0 x4_1).b))) = some r := by first | (rw [hy171]; with_reducible exact H) | (have H2_ := (Option.bind_some _ _).symm.trans H; rw [hy171]; with_reducible exact H2_) | (have H2_ := (Option.bind_some _ _).symm.trans H; with_reducible exact H2_) | with_reducible exact H | (rw [hy171]; exact H) | exact H
           have Ny171 := am hy171
           clear hy171
           have HC60 := am H
           clear H
           obtain ⟨Ao61, co61, eo61⟩ := Kd.R_slice HO_9.out
           subst eo61
           try go_wp2
           replace HO_3 := am (Kd.N_drew HO_3.out)
           replace HO_9 := am (Kd.R_drew HO_9.out)
           replace BK105 := am (blk_drew BK105.out)
           replace HB := am (below_drew1 HB.out)
           have p163 : 0 ≤ (x10_5 : Int) := dt_
           have q163 : x10_5 < (t157.length : Int) := dt_
           obtain ⟨ad163, e163, hx163_0⟩ := Kd.at_string (Kd.R_reads' HO_9.out).2.2 x10_5 p163 q163
           cases e163
           replace p163 := eq_true p163
           replace q163 := eq_true q163
           refine start_ (n := 12) (S := fun w' => w'.cell? (ad163.add (x10_5).toNat) = some (.string (rdOf ByteArray.empty t157 x10_5))) (ds := [9, 10]) (bl 12 0) (by kernel_rfl) rfl rfl (hx163_0) (fun hHeld => ?_); refine with_tabW lambrequinref21_Of.tab21 lambrequinref21_Of.bits21 (fun HT_ HW_ => ?_)
           generalize wr.drew = w62 at HO_3 HO_9 BK105 HB hx163_0 hHeld ⊢
           refine pu_ (i := 0) (N := some 79) (bl 12 1) rfl rfl (any_of HT_.out (by kernel_rfl)) ?_
           refine pu_ (i := 1) (N := some 80) (bl 12 3) rfl rfl (any_of HT_.out (by kernel_rfl)) ?_
           refine pu_ (i := 3) (N := some 82) (bl 12 11) rfl rfl (any_of HT_.out (by kernel_rfl)) ?_
           refine pu_ (i := 4) (N := some 83) (bl 12 27) rfl rfl (any_of HT_.out (by kernel_rfl)) ?_
           refine pu_ (i := 5) (N := some 84) (bl 12 59) rfl rfl (any_of HT_.out (by kernel_rfl)) ?_
           refine take_ (i := 6) (N := some 85) (v := ?_) (a' := ?_) (bl 12 123) rfl rfl (take_ofW HT_.out HW_.out (by kernel_rfl)) (fun _ _ _ h => h) (Or.inl ⟨by rfl, ?_⟩) hHeld ?_ ?_
           rotate_left
           ·intro w' s0
            go_simp
            with_reducible rfl
           rotate_left
           ·simp only [Act.put, sA, sZ, sS, i64_w, i32_w]
            rfl
           refine one_ (i := 2) (N := some 81) (bl 12 127) rfl rfl (one_of HT_.out (by kernel_rfl)) (by decide) (fun K hK => ?_)
           refine goes_ Tryz.func15 (by kernel_rfl) rfl #[.int .i64 x4_1] (by rfl) rfl rfl gl_ ?_
           with_reducible refine (lambrequinref21_num.calls x4_1 t160 t161 t162 _ A55.out).mono ?_
           rintro e w63 ⟨rfl, hb⟩
           have HS0_ := (hb.cell (blt_ (hHeld))).trans (hHeld)
           refine ⟨_, rfl, ?_⟩
           replace HO_3 := am (Kd.N_below (by (with_reducible repeat (first | apply Kd.N_alloc | apply Kd.N_drewN | apply Kd.N_drew)); exact HO_3.out) hb)
           replace HO_9 := am (Rb_ HO_9.out hb)
           replace BK105 := am (bb_ BK105.out hb)
           replace HB := am (bs_ HB.out hb)
           (try clear hb)
           (try clear hb2)
           (try clear hk)
           (try clear hi)
           refine hK.out _ _ (HS0_) (fun hHeld => ?_)
           clear hK K
           refine norm_ (a' := ?_) ?_ ?_
           rotate_left
           ·show Act.put _ (some 81) _ = _
            simp only [Act.put, sA, sZ, sS, i64_w, i32_w]
            rfl
           refine one_ (i := 7) (N := some 86) (bl 12 255) rfl rfl (one_of HT_.out (by kernel_rfl)) (by decide) (fun K hK => ?_)
           refine goes_ Tryz.func19 (by kernel_rfl) rfl #[.string (rdOf ByteArray.empty t157 x10_5)] (by rfl) rfl rfl gl_ ?_
           with_reducible refine (lambrequinref21_sym.calls (rdOf ByteArray.empty t157 x10_5) t164 t165 t166 _ A57.out).mono ?_
           rintro e w64 ⟨rfl, hb⟩
           have HS0_ := (hb.cell (blt_ (hHeld))).trans (hHeld)
           refine ⟨_, rfl, ?_⟩
           replace HO_3 := am (Kd.N_below (by (with_reducible repeat (first | apply Kd.N_alloc | apply Kd.N_drewN | apply Kd.N_drew)); exact HO_3.out) hb)
           replace HO_9 := am (Rb_ HO_9.out hb)
           replace BK105 := am (bb_ BK105.out hb)
           replace HB := am (bs_ HB.out hb)
           (try clear hb)
           (try clear hb2)
           (try clear hk)
           (try clear hi)
           refine hK.out _ _ (HS0_) (fun hHeld => ?_)
           clear hK K
           refine norm_ (a' := ?_) ?_ ?_
           rotate_left
           ·show Act.put _ (some 86) _ = _
            simp only [Act.put, sA, sZ, sS, i64_w, i32_w]
            rfl
           refine one_ (i := 8) (N := some 87) (bl 12 511) rfl rfl (one_of HT_.out (by kernel_rfl)) (by decide) (fun K hK => ?_)
           refine goes_ Tryz.func17 (by kernel_rfl) rfl #[.string (⟨#[117, 115, 101]⟩ : ByteArray), .agg #[.bool t160, .string t161, .int .i64 t162], .agg #[.bool t164, .string t165, .int .i64 t166]] (by rfl) rfl rfl gl_ ?_
           with_reducible refine (lambrequinref21_Two.calls (⟨#[117, 115, 101]⟩ : ByteArray) t160 t161 t162 t164 t165 t166 t167 t168 _ A58.out).mono ?_
           rintro e w65 ⟨v169, rfl, ho0, hb⟩
           have HS0_ := (hb.cell (blt_ (hHeld))).trans (hHeld)
           refine ⟨_, rfl, ?_⟩
           replace HO_3 := am (Kd.N_elder' (by (with_reducible repeat (first | apply Kd.N_alloc | apply Kd.N_drewN | apply Kd.N_drew)); exact HO_3.out) (Kd.R_base ho0) hb)
           replace HO_9 := am (Rb_ HO_9.out hb)
           have HO170 := am (Kd.R_lower (Kd.R_newM (M := fun k_ => (w.heap.size ≤ k_)) ho0 (below_size (pL HB.out)) (fun k_ h_ => h_)) (below_size (pL HB.out)))
           replace BK105 := am (bb_ BK105.out hb)
           replace HB := am (bs_ HB.out hb)
           (try clear hb)
           (try clear hb2)
           (try clear hk)
           (try clear hi)
           (try clear ho0)
           obtain ⟨Ao67, co67, eo67⟩ := Kd.R_slice HO170.out
           (first | subst eo67 | (injection eo67 with f1_ f2_ f3_; have f4_ := f1_.symm; have f5_ := f3_.symm; clear f1_ f2_ f3_; subst f4_; subst f5_))
           refine hK.out _ _ (HS0_) (fun hHeld => ?_)
           clear hK K
           refine norm_ (a' := ?_) ?_ ?_
           rotate_left
           ·show Act.put _ (some 87) _ = _
            simp only [Act.put, sA, sZ, sS, i64_w, i32_w]
            rfl
           refine last_ (i := 9) (N := some 88) (bl 12 1023) rfl rfl (one_of HT_.out (by kernel_rfl)) (by decide) (fun K hK => ?_)
           refine value_ (w1 := ?_) (v := ?_) (by rfl) rfl ?_ ?_
           rotate_left 2
           ·go_simp
            constructor
            ·rfl
            rfl
           refine hK.out _ _ ?_
           clear hK K
           refine norm_ (a' := ?_) ?_ ?_
           rotate_left
           ·show Act.put _ (some 88) _ = _
            simp only [Act.put, sA, sZ, sS, i64_w, i32_w]
            rfl
           refine last_ (i := 10) (N := some 89) (bl 12 2047) rfl rfl (one_of HT_.out (by kernel_rfl)) (by decide) (fun K hK => ?_)
           refine Kd.N_append_step k26 (w0 := w) w.heap.size (by rfl) (.tmp 79) (.tmp 88) 23 26 (.agg #[(.string ⟨#[]⟩), (.slice none 0 0)]) 40 rfl Tryz.underlying23 info26 rfl (by decide) (by omega) u3 x3_5 (⟨t167, t168⟩ : Fact) [.string t167, .slice Ao67 t168.length co67] (fun k_ => (w.heap.size ≤ k_) ∧ some k_ ≠ (.slice (some ad163) t157.length co61 : Value).ownBlock ∧ k_ ≠ gb105) (fun k_ => ((fun k_ => (w.heap.size ≤ k_) ∧ some k_ ≠ (.slice (some ad163) t157.length co61 : Value).ownBlock ∧ k_ ≠ gb105)) k_ ∧ some k_ ≠ (u3 : Value).ownBlock) rfl rfl ?aP (fun _ hk => hk) ?aF ?aO ?aB ?aS ?aL ?_
           (case aP => exact (k26_mkF _ _ (⟨t167, t168⟩ : Fact) (Kd.R_reads' (Kd.R_mono (ok' := (fun k_ => ((fun k_ => (w.heap.size ≤ k_) ∧ some k_ ≠ (.slice (some ad163) t157.length co61 : Value).ownBlock ∧ k_ ≠ gb105)) k_ ∧ some k_ ≠ (u3 : Value).ownBlock)) (Kd.R_types (Kd.R_apart' (Kd.R_apart' (HO170.out) (Kd.R_typed HO_9.out) (by decide)) (Kd.N_typed HO_3.out) (by decide)) BK105.out (by decide)) (fun k_ hk => ⟨⟨hk.1.1.1.1, ⟨hk.1.1.2, hk.2⟩⟩, hk.1.2⟩))).2.1 (Kd.R_F (Kd.R_mono (ok' := (fun k_ => ((fun k_ => (w.heap.size ≤ k_) ∧ some k_ ≠ (.slice (some ad163) t157.length co61 : Value).ownBlock ∧ k_ ≠ gb105)) k_ ∧ some k_ ≠ (u3 : Value).ownBlock)) (Kd.R_types (Kd.R_apart' (Kd.R_apart' (HO170.out) (Kd.R_typed HO_9.out) (by decide)) (Kd.N_typed HO_3.out) (by decide)) BK105.out (by decide)) (fun k_ hk => ⟨⟨hk.1.1.1.1, ⟨hk.1.1.2, hk.2⟩⟩, hk.1.2⟩)))))
           (case aB => exact (pL HB.out))
           (case aF => exact (fun k_ hk => ⟨(Nat.le_trans (below_size (pL HB.out)) hk), Kd.fresh' (Kd.R_lt (pR HO_9.out)) k_ hk, Kd.freshB (g := gb105) (pB BK105.out) k_ hk⟩))
           (case aO => exact (by (with_reducible repeat (first | apply Kd.N_alloc | apply Kd.N_drewN | apply Kd.N_drew)); exact Kd.N_mono HO_3.out (fun _ hk => ⟨hk.1.1, ⟨hk.1.2.1, hk.1.2.2⟩⟩)))
           (case aS => exact (below_size (pL HB.out)))
           (case aL => have := LMc59.out; omega)
           intro v172 w66 ho hb hg hat
           rw [← Ny171.out] at ho
           replace HO_9 := am (Kd.R_over' (pR HO_9.out) (Kd.N_typed (by (with_reducible repeat (first | apply Kd.N_alloc | apply Kd.N_drewN | apply Kd.N_drew)); exact HO_3.out)) (by decide) hg)
           replace BK105 := am (blk_grown (pB BK105.out) hg (Kd.N_ne HO_3.out BK105.out (by decide)))
           replace HB := am (hb)
           have HO173 := am (ho)
           clear HO_3 HO170
           clear ho hb hg hat
           refine hK.out _ _ ?_
           clear hK K
           refine norm_ (a' := ?_) ?_ ?_
           rotate_left
           ·show Act.put _ (some 89) _ = _
            simp only [Act.put, sA, sZ, sS, i64_w, i32_w]
            rfl
           refine pu_ (i := 11) (N := some 3) (bl 12 4095) rfl rfl (any_of HT_.out (by kernel_rfl)) ?_
           refine done_ (done_of HT_.out (by kernel_rfl)) ?_
           obtain ⟨hcz68_0, hcz68_1, hcz68_2, hcz68_3, hcz68_4, hcz68_5, hcz68_6, hcz68_7, hfz68_0, hfz68_1, hfz68_2, hfz68_3, hfz68_4, hfz68_5, hfz68_6, hfz68_7⟩ := bc8 BK105.out
           go_upto_if 92 with (fail)
           go_cut [3] (fun v3 wc => ∃ (kq : Nat) (x3_59 : List (Fact)), Aside0 (lambrequinref21_Of.j5 kq l0 x3_59 x4_1 t129 t157 x10_5 ((rd_T34 l0 x4_1).kind) ((rd_T34 l0 x4_1).x) ((rd_T34 l0 x4_1).y) ((rd_T34 l0 x4_1).z) ((rd_T34 l0 x4_1).op) ((rd_T34 l0 x4_1).n) ((rd_T34 l0 x4_1).a) ((rd_T34 l0 x4_1).b) = some r) ∧ Aside0 (kq ≤ k5) ∧ Aside0 (Kd.N k26 26 wc w.heap.size (fun k_ => (w.heap.size ≤ k_) ∧ some k_ ≠ ((.slice (some ad163) t157.length co61) : Value).ownBlock ∧ k_ ≠ gb105) v3 x3_59) ∧ Aside0 (Kd.R Kd.string 9 wc w.heap.size (fun k_ => (w.heap.size ≤ k_)) (.slice (some ad163) t157.length co61) t157) ∧ Aside0 (wc.heap[gb105]? = some (.cells #[.int .i64 ((rd_T34 l0 x4_1).kind), .string ((rd_T34 l0 x4_1).x), .string ((rd_T34 l0 x4_1).y), .string ((rd_T34 l0 x4_1).z), .string ((rd_T34 l0 x4_1).op), .int .i64 ((rd_T34 l0 x4_1).n), .int .i64 ((rd_T34 l0 x4_1).a), .int .i64 ((rd_T34 l0 x4_1).b)] 34 (0, 0))) ∧ Aside0 (Below w.heap.size w wc))
           case first =>
            have H := HC60.out
            clear HC60
            by_cases c69 : ((rd_T34 l0 x4_1).kind) = 6
            rotate_left
            ·rw [if_neg c69] at H
             have c69b0 : (((rd_T34 l0 x4_1).kind) == 6) = false := beq_eq_false_iff_ne.mpr c69
             have c69b1 : (((rd_T34 l0 x4_1).kind) != 6) = true := bne_iff_ne.mpr c69
             (first | rw [c69b0] | (simp only [i64_w, i32_w]; rw [c69b0]) | skip)
             have H' := am H
             clear H
             go_wp2
             go_meet
             case rel => exact ⟨_, (y171), H', ⟨by have := HK1.out; have := HK2.out; have := HJ25.out; have := HJ38.out; have := HK5.out; first | omega | exact Nat.le_refl _⟩, ⟨by (with_reducible repeat (first | apply Kd.N_alloc | apply Kd.N_drewN | apply Kd.N_drew)); exact HO173.out⟩, ⟨pR HO_9.out⟩, ⟨pB BK105.out⟩, ⟨pL HB.out⟩⟩
            rw [if_pos c69] at H
            have c69b0 : (((rd_T34 l0 x4_1).kind) == 6) = true := beq_iff_eq.mpr c69
            have c69b1 : (((rd_T34 l0 x4_1).kind) != 6) = false := bne_eq_false_iff_eq.mpr c69
            clear c69
            (first | rw [c69b0] | (simp only [i64_w, i32_w]; rw [c69b0]) | skip)
            replace H := Option.bind_eq_some_iff.mp H
            obtain ⟨⟨t174, t175, t176⟩, A700, H⟩ := H
            replace H : ((lambrequinref21_sym.f (rdOf ByteArray.empty t157 x10_5)).bind fun bt178 => ((lambrequinref21_Two.f (⟨#[115, 105, 110, 107]⟩ : ByteArray) t174 t175 t176 bt178.1 bt178.2.1 bt178.2.2).bind fun bt181 => (if y171.length < 3518437208883 then (lambrequinref21_Of.j5 k5 l0 (y171 ++ [(⟨bt181.1, bt181.2⟩ : Fact)]) x4_1 t129 t157 x10_5 ((rd_T34 l0 x4_1).kind) ((rd_T34 l0 x4_1).x) ((rd_T34 l0 x4_1).y) ((rd_T34 l0 x4_1).z) ((rd_T34 l0 x4_1).op) ((rd_T34 l0 x4_1).n) ((rd_T34 l0 x4_1).a) ((rd_T34 l0 x4_1).b)) else (none)))) = some r := H
            have A70 := am A700
            clear A700
            replace H := Option.bind_eq_some_iff.mp H
            obtain ⟨⟨t178, t179, t180⟩, A710, H⟩ := H
            replace H : ((lambrequinref21_Two.f (⟨#[115, 105, 110, 107]⟩ : ByteArray) t174 t175 t176 t178 t179 t180).bind fun bt181 => (if y171.length < 3518437208883 then (lambrequinref21_Of.j5 k5 l0 (y171 ++ [(⟨bt181.1, bt181.2⟩ : Fact)]) x4_1 t129 t157 x10_5 ((rd_T34 l0 x4_1).kind) ((rd_T34 l0 x4_1).x) ((rd_T34 l0 x4_1).y) ((rd_T34 l0 x4_1).z) ((rd_T34 l0 x4_1).op) ((rd_T34 l0 x4_1).n) ((rd_T34 l0 x4_1).a) ((rd_T34 l0 x4_1).b)) else (none))) = some r := H
            have A71 := am A710
            clear A710
            replace H := Option.bind_eq_some_iff.mp H
            obtain ⟨⟨t181, t182⟩, A720, H⟩ := H
            replace H : (if y171.length < 3518437208883 then (lambrequinref21_Of.j5 k5 l0 (y171 ++ [(⟨t181, t182⟩ : Fact)]) x4_1 t129 t157 x10_5 ((rd_T34 l0 x4_1).kind) ((rd_T34 l0 x4_1).x) ((rd_T34 l0 x4_1).y) ((rd_T34 l0 x4_1).z) ((rd_T34 l0 x4_1).op) ((rd_T34 l0 x4_1).n) ((rd_T34 l0 x4_1).a) ((rd_T34 l0 x4_1).b)) else (none)) = some r := H
            have A72 := am A720
            clear A720
            by_cases c73 : y171.length < 3518437208883
            rotate_left
            ·rw [if_neg c73] at H
             exact absurd H (by simp)
            rw [if_pos c73] at H
            have LMc73 := am c73
            clear c73
            obtain ⟨y185, hy185⟩ : ∃ y_ : List (Fact), y_ = (y171 ++ [(⟨t181, t182⟩ : Fact)]) := ⟨_, rfl⟩
            replace H : (lambrequinref21_Of.j5 k5 l0 y185 x4_1 t129 t157 x10_5 ((rd_T34 l0 x4_1).kind) ((rd_T34 l0 x4_1).x) ((rd_T34 l0 x4_1).y) ((rd_T34 l0 x4_1).z) ((rd_T34 l0 x4_1).op) ((rd_T34 l0 x4_1).n) ((rd_T34 l0 x4_1).a) ((rd_T34 l0 x4_1).b)) = some r := by first | (rw [hy185]; with_reducible exact H) | (have H2_ := (Option.bind_some _ _).symm.trans H; rw [hy185]; with_reducible exact H2_) | (have H2_ := (Option.bind_some _ _).symm.trans H; with_reducible exact H2_) | with_reducible exact H | (rw [hy185]; exact H) | exact H
            have Ny185 := am hy185
            clear hy185
            have H' := am H
            clear H
            try go_wp2
            replace HO_9 := am (Kd.R_drew HO_9.out)
            replace HO173 := am (Kd.N_drew HO173.out)
            replace BK105 := am (blk_drew BK105.out)
            replace HB := am (below_drew1 HB.out)
            have p177 : 0 ≤ (x10_5 : Int) := dt_
            have q177 : x10_5 < (t157.length : Int) := dt_
            obtain ⟨ad177, e177, hx177_0⟩ := Kd.at_string (Kd.R_reads' HO_9.out).2.2 x10_5 p177 q177
            obtain rfl : ad163 = ad177 := (by injection e177)
            replace p177 := eq_true p177
            replace q177 := eq_true q177
            refine start_ (n := 12) (S := fun w' => w'.cell? (ad163.add (x10_5).toNat) = some (.string (rdOf ByteArray.empty t157 x10_5))) (ds := [9, 10]) (bl 12 0) (by kernel_rfl) rfl rfl (hx177_0) (fun hHeld => ?_); refine with_tabW lambrequinref21_Of.tab23 lambrequinref21_Of.bits23 (fun HT_ HW_ => ?_)
            generalize w66.drew = w74 at HO_9 HO173 BK105 HB hx177_0 hHeld ⊢
            refine pu_ (i := 0) (N := some 93) (bl 12 1) rfl rfl (any_of HT_.out (by kernel_rfl)) ?_
            refine pu_ (i := 1) (N := some 94) (bl 12 3) rfl rfl (any_of HT_.out (by kernel_rfl)) ?_
            refine pu_ (i := 3) (N := some 96) (bl 12 11) rfl rfl (any_of HT_.out (by kernel_rfl)) ?_
            refine pu_ (i := 4) (N := some 97) (bl 12 27) rfl rfl (any_of HT_.out (by kernel_rfl)) ?_
            refine pu_ (i := 5) (N := some 98) (bl 12 59) rfl rfl (any_of HT_.out (by kernel_rfl)) ?_
            refine take_ (i := 6) (N := some 99) (v := ?_) (a' := ?_) (bl 12 123) rfl rfl (take_ofW HT_.out HW_.out (by kernel_rfl)) (fun _ _ _ h => h) (Or.inl ⟨by rfl, ?_⟩) hHeld ?_ ?_
            rotate_left
            ·intro w' s0
             go_simp
             with_reducible rfl
            rotate_left
            ·simp only [Act.put, sA, sZ, sS, i64_w, i32_w]
             rfl
            refine one_ (i := 2) (N := some 95) (bl 12 127) rfl rfl (one_of HT_.out (by kernel_rfl)) (by decide) (fun K hK => ?_)
            refine goes_ Tryz.func15 (by kernel_rfl) rfl #[.int .i64 x4_1] (by rfl) rfl rfl gl_ ?_
            with_reducible refine (lambrequinref21_num.calls x4_1 t174 t175 t176 _ A70.out).mono ?_
            rintro e w75 ⟨rfl, hb⟩
            have HS0_ := (hb.cell (blt_ (hHeld))).trans (hHeld)
            refine ⟨_, rfl, ?_⟩
            replace HO_9 := am (Rb_ HO_9.out hb)
            replace HO173 := am (Kd.N_below (by (with_reducible repeat (first | apply Kd.N_alloc | apply Kd.N_drewN | apply Kd.N_drew)); exact HO173.out) hb)
            replace BK105 := am (bb_ BK105.out hb)
            replace HB := am (bs_ HB.out hb)
            (try clear hb)
            (try clear hb2)
            (try clear hk)
            (try clear hi)
            refine hK.out _ _ (HS0_) (fun hHeld => ?_)
            clear hK K
            refine norm_ (a' := ?_) ?_ ?_
            rotate_left
            ·show Act.put _ (some 95) _ = _
             simp only [Act.put, sA, sZ, sS, i64_w, i32_w]
             rfl
            refine one_ (i := 7) (N := some 100) (bl 12 255) rfl rfl (one_of HT_.out (by kernel_rfl)) (by decide) (fun K hK => ?_)
            refine goes_ Tryz.func19 (by kernel_rfl) rfl #[.string (rdOf ByteArray.empty t157 x10_5)] (by rfl) rfl rfl gl_ ?_
            with_reducible refine (lambrequinref21_sym.calls (rdOf ByteArray.empty t157 x10_5) t178 t179 t180 _ A71.out).mono ?_
            rintro e w76 ⟨rfl, hb⟩
            have HS0_ := (hb.cell (blt_ (hHeld))).trans (hHeld)
            refine ⟨_, rfl, ?_⟩
            replace HO_9 := am (Rb_ HO_9.out hb)
            replace HO173 := am (Kd.N_below (by (with_reducible repeat (first | apply Kd.N_alloc | apply Kd.N_drewN | apply Kd.N_drew)); exact HO173.out) hb)
            replace BK105 := am (bb_ BK105.out hb)
            replace HB := am (bs_ HB.out hb)
            (try clear hb)
            (try clear hb2)
            (try clear hk)
            (try clear hi)
            refine hK.out _ _ (HS0_) (fun hHeld => ?_)
            clear hK K
            refine norm_ (a' := ?_) ?_ ?_
            rotate_left
            ·show Act.put _ (some 100) _ = _
             simp only [Act.put, sA, sZ, sS, i64_w, i32_w]
             rfl
            refine one_ (i := 8) (N := some 101) (bl 12 511) rfl rfl (one_of HT_.out (by kernel_rfl)) (by decide) (fun K hK => ?_)
            refine goes_ Tryz.func17 (by kernel_rfl) rfl #[.string (⟨#[115, 105, 110, 107]⟩ : ByteArray), .agg #[.bool t174, .string t175, .int .i64 t176], .agg #[.bool t178, .string t179, .int .i64 t180]] (by rfl) rfl rfl gl_ ?_
            with_reducible refine (lambrequinref21_Two.calls (⟨#[115, 105, 110, 107]⟩ : ByteArray) t174 t175 t176 t178 t179 t180 t181 t182 _ A72.out).mono ?_
            rintro e w77 ⟨v183, rfl, ho0, hb⟩
            have HS0_ := (hb.cell (blt_ (hHeld))).trans (hHeld)
            refine ⟨_, rfl, ?_⟩
            replace HO_9 := am (Rb_ HO_9.out hb)
            replace HO173 := am (Kd.N_elder' (by (with_reducible repeat (first | apply Kd.N_alloc | apply Kd.N_drewN | apply Kd.N_drew)); exact HO173.out) (Kd.R_base ho0) hb)
            have HO184 := am (Kd.R_lower (Kd.R_newM (M := fun k_ => (w.heap.size ≤ k_)) ho0 (below_size (pL HB.out)) (fun k_ h_ => h_)) (below_size (pL HB.out)))
            replace BK105 := am (bb_ BK105.out hb)
            replace HB := am (bs_ HB.out hb)
            (try clear hb)
            (try clear hb2)
            (try clear hk)
            (try clear hi)
            (try clear ho0)
            obtain ⟨Ao79, co79, eo79⟩ := Kd.R_slice HO184.out
            (first | subst eo79 | (injection eo79 with f1_ f2_ f3_; have f4_ := f1_.symm; have f5_ := f3_.symm; clear f1_ f2_ f3_; subst f4_; subst f5_))
            refine hK.out _ _ (HS0_) (fun hHeld => ?_)
            clear hK K
            refine norm_ (a' := ?_) ?_ ?_
            rotate_left
            ·show Act.put _ (some 101) _ = _
             simp only [Act.put, sA, sZ, sS, i64_w, i32_w]
             rfl
            refine last_ (i := 9) (N := some 102) (bl 12 1023) rfl rfl (one_of HT_.out (by kernel_rfl)) (by decide) (fun K hK => ?_)
            refine value_ (w1 := ?_) (v := ?_) (by rfl) rfl ?_ ?_
            rotate_left 2
            ·go_simp
             constructor
             ·rfl
             rfl
            refine hK.out _ _ ?_
            clear hK K
            refine norm_ (a' := ?_) ?_ ?_
            rotate_left
            ·show Act.put _ (some 102) _ = _
             simp only [Act.put, sA, sZ, sS, i64_w, i32_w]
             rfl
            refine last_ (i := 10) (N := some 103) (bl 12 2047) rfl rfl (one_of HT_.out (by kernel_rfl)) (by decide) (fun K hK => ?_)
            refine Kd.N_append_step k26 (w0 := w) w.heap.size (by rfl) (.tmp 93) (.tmp 102) 23 26 (.agg #[(.string ⟨#[]⟩), (.slice none 0 0)]) 40 rfl Tryz.underlying23 info26 rfl (by decide) (by omega) v172 y171 (⟨t181, t182⟩ : Fact) [.string t181, .slice Ao79 t182.length co79] (fun k_ => (w.heap.size ≤ k_) ∧ some k_ ≠ (.slice (some ad163) t157.length co61 : Value).ownBlock ∧ k_ ≠ gb105) (fun k_ => ((fun k_ => (w.heap.size ≤ k_) ∧ some k_ ≠ (.slice (some ad163) t157.length co61 : Value).ownBlock ∧ k_ ≠ gb105)) k_ ∧ some k_ ≠ (v172 : Value).ownBlock) rfl rfl ?aP (fun _ hk => hk) ?aF ?aO ?aB ?aS ?aL ?_
            (case aP => exact (k26_mkF _ _ (⟨t181, t182⟩ : Fact) (Kd.R_reads' (Kd.R_mono (ok' := (fun k_ => ((fun k_ => (w.heap.size ≤ k_) ∧ some k_ ≠ (.slice (some ad163) t157.length co61 : Value).ownBlock ∧ k_ ≠ gb105)) k_ ∧ some k_ ≠ (v172 : Value).ownBlock)) (Kd.R_types (Kd.R_apart' (Kd.R_apart' (HO184.out) (Kd.R_typed HO_9.out) (by decide)) (Kd.N_typed HO173.out) (by decide)) BK105.out (by decide)) (fun k_ hk => ⟨⟨hk.1.1.1.1, ⟨hk.1.1.2, hk.2⟩⟩, hk.1.2⟩))).2.1 (Kd.R_F (Kd.R_mono (ok' := (fun k_ => ((fun k_ => (w.heap.size ≤ k_) ∧ some k_ ≠ (.slice (some ad163) t157.length co61 : Value).ownBlock ∧ k_ ≠ gb105)) k_ ∧ some k_ ≠ (v172 : Value).ownBlock)) (Kd.R_types (Kd.R_apart' (Kd.R_apart' (HO184.out) (Kd.R_typed HO_9.out) (by decide)) (Kd.N_typed HO173.out) (by decide)) BK105.out (by decide)) (fun k_ hk => ⟨⟨hk.1.1.1.1, ⟨hk.1.1.2, hk.2⟩⟩, hk.1.2⟩)))))
            (case aB => exact (pL HB.out))
            (case aF => exact (fun k_ hk => ⟨(Nat.le_trans (below_size (pL HB.out)) hk), Kd.fresh' (Kd.R_lt (pR HO_9.out)) k_ hk, Kd.freshB (g := gb105) (pB BK105.out) k_ hk⟩))
            (case aO => exact (by (with_reducible repeat (first | apply Kd.N_alloc | apply Kd.N_drewN | apply Kd.N_drew)); exact Kd.N_mono HO173.out (fun _ hk => ⟨hk.1.1, ⟨hk.1.2.1, hk.1.2.2⟩⟩)))
            (case aS => exact (below_size (pL HB.out)))
            (case aL => have := LMc73.out; omega)
            intro v186 w78 ho hb hg hat
            rw [← Ny185.out] at ho
            replace HO_9 := am (Kd.R_over' (pR HO_9.out) (Kd.N_typed (by (with_reducible repeat (first | apply Kd.N_alloc | apply Kd.N_drewN | apply Kd.N_drew)); exact HO173.out)) (by decide) hg)
            replace BK105 := am (blk_grown (pB BK105.out) hg (Kd.N_ne HO173.out BK105.out (by decide)))
            replace HB := am (hb)
            have HO187 := am (ho)
            clear HO173 HO184
            clear ho hb hg hat
            refine hK.out _ _ ?_
            clear hK K
            refine norm_ (a' := ?_) ?_ ?_
            rotate_left
            ·show Act.put _ (some 103) _ = _
             simp only [Act.put, sA, sZ, sS, i64_w, i32_w]
             rfl
            refine pu_ (i := 11) (N := some 3) (bl 12 4095) rfl rfl (any_of HT_.out (by kernel_rfl)) ?_
            refine done_ (done_of HT_.out (by kernel_rfl)) ?_
            try go_wp2
            go_meet
            case rel => exact ⟨_, (y185), H', ⟨by have := HK1.out; have := HK2.out; have := HJ25.out; have := HJ38.out; have := HK5.out; first | omega | exact Nat.le_refl _⟩, ⟨by (with_reducible repeat (first | apply Kd.N_alloc | apply Kd.N_drewN | apply Kd.N_drew)); exact HO187.out⟩, ⟨pR HO_9.out⟩, ⟨pB BK105.out⟩, ⟨pL HB.out⟩⟩
           case rest =>
            clear HC60
            try clear c1
            try clear p1
            try clear q1
            try clear hx1
            try clear p2
            try clear c5
            try clear c6
            try clear p6
            try clear c7
            try clear p10
            try clear q10
            try clear hx10
            try clear c15
            try clear p16
            try clear q16
            try clear hx16
            try clear c17
            try clear p17
            try clear q17
            try clear hx17
            try clear c19
            try clear c54
            try clear c54b0
            try clear c56
            try clear c56b0
            try clear c59
            try clear c69
            try clear c69b0
            try clear c69b1
            try clear c73
            try clear hcz68_0
            try clear hcz68_1
            try clear hcz68_2
            try clear hcz68_3
            try clear hcz68_4
            try clear hcz68_5
            try clear hcz68_6
            try clear hcz68_7
            try clear hcz7_6
            try clear hcz7_7
            try clear hfz27_0
            try clear hfz27_1
            try clear hfz27_2
            try clear hfz27_3
            try clear hfz27_4
            try clear hfz27_5
            try clear hfz27_6
            try clear hfz27_7
            try clear hfz40_0
            try clear hfz40_1
            try clear hfz40_2
            try clear hfz40_3
            try clear hfz40_4
            try clear hfz40_5
            try clear hfz40_6
            try clear hfz40_7
            try clear hfz52_0
            try clear hfz52_1
            try clear hfz52_2
            try clear hfz52_3
            try clear hfz52_4
            try clear hfz52_5
            try clear hfz52_6
            try clear hfz52_7
            try clear hfz68_0
            try clear hfz68_1
            try clear hfz68_2
            try clear hfz68_3
            try clear hfz68_4
            try clear hfz68_5
            try clear hfz68_6
            try clear hfz68_7
            try clear hfz7_0
            try clear hfz7_1
            try clear hfz7_2
            try clear hfz7_3
            try clear hfz7_4
            try clear hfz7_5
            try clear hfz7_6
            try clear hfz7_7
            try clear hx104_0
            try clear hx104_1
            try clear hx104_2
            try clear hx104_3
            try clear hx104_4
            try clear hx104_5
            try clear hx104_6
            try clear hx104_7
            try clear hx163_0
            try clear hx177_0
            try clear p1
            try clear p10
            try clear p104
            try clear p163
            try clear p177
            try clear p2
            try clear p6
            try clear q1
            try clear q10
            try clear q104
            try clear q163
            try clear q177
            obtain ⟨kq, x3_59, HA, HJ59, HO_3, HO_9, BK105, HB⟩ := hcut
            cases kq with
            | zero => exact absurd HA.out (by simp [lambrequinref21_Of.j5])
            | succ kj59 =>
             have H := HA.out
             clear HA
             simp only [lambrequinref21_Of.j5] at H
             have HC80 := am H
             clear H
             go_upto_region 24 with (fail)
             go_cut [111] (fun v111 wc => ∃ (kq : Nat) (x111_79 : Bool), v111 = .bool x111_79 ∧ Aside0 (lambrequinref21_Of.j6 kq l0 x3_59 x4_1 t129 t157 x10_5 x111_79 ((rd_T34 l0 x4_1).kind) ((rd_T34 l0 x4_1).x) ((rd_T34 l0 x4_1).y) ((rd_T34 l0 x4_1).z) ((rd_T34 l0 x4_1).op) ((rd_T34 l0 x4_1).n) ((rd_T34 l0 x4_1).a) ((rd_T34 l0 x4_1).b) = some r) ∧ Aside0 (kq ≤ kj59) ∧ Aside0 (Kd.N k26 26 wc w.heap.size (fun k_ => (w.heap.size ≤ k_) ∧ some k_ ≠ ((.slice (some ad163) t157.length co61) : Value).ownBlock ∧ k_ ≠ gb105) u3 x3_59) ∧ Aside0 (Kd.R Kd.string 9 wc w.heap.size (fun k_ => (w.heap.size ≤ k_)) (.slice (some ad163) t157.length co61) t157) ∧ Aside0 (wc.heap[gb105]? = some (.cells #[.int .i64 ((rd_T34 l0 x4_1).kind), .string ((rd_T34 l0 x4_1).x), .string ((rd_T34 l0 x4_1).y), .string ((rd_T34 l0 x4_1).z), .string ((rd_T34 l0 x4_1).op), .int .i64 ((rd_T34 l0 x4_1).n), .int .i64 ((rd_T34 l0 x4_1).a), .int .i64 ((rd_T34 l0 x4_1).b)] 34 (0, 0))) ∧ Aside0 (Below w.heap.size w wc))
             case first =>
              have H := HC80.out
              clear HC80
              by_cases c81 : ((rd_T34 l0 x4_1).kind) = 2
              ·rw [if_pos c81] at H
               have c81b0 : (((rd_T34 l0 x4_1).kind) == 2) = true := beq_iff_eq.mpr c81
               have c81b1 : (((rd_T34 l0 x4_1).kind) != 2) = false := bne_eq_false_iff_eq.mpr c81
               clear c81
               (first | rw [c81b0] | (simp only [i64_w, i32_w]; rw [c81b0]) | skip)
               have H' := am H
               clear H
               obtain ⟨hcz82_0, hcz82_1, hcz82_2, hcz82_3, hcz82_4, hcz82_5, hcz82_6, hcz82_7, hfz82_0, hfz82_1, hfz82_2, hfz82_3, hfz82_4, hfz82_5, hfz82_6, hfz82_7⟩ := bc8 BK105.out
               go_wp2
               go_meet
               case rel => exact ⟨_, (true), rs_, H', ⟨by have := HK1.out; have := HK2.out; have := HJ25.out; have := HJ38.out; have := HK5.out; have := HJ59.out; first | omega | exact Nat.le_refl _⟩, ⟨by (with_reducible repeat (first | apply Kd.N_alloc | apply Kd.N_drewN | apply Kd.N_drew)); exact HO_3.out⟩, ⟨pR HO_9.out⟩, ⟨pB BK105.out⟩, ⟨pL HB.out⟩⟩
              rw [if_neg c81] at H
              have c81b0 : (((rd_T34 l0 x4_1).kind) == 2) = false := beq_eq_false_iff_ne.mpr c81
              have c81b1 : (((rd_T34 l0 x4_1).kind) != 2) = true := bne_iff_ne.mpr c81
              (first | rw [c81b0] | (simp only [i64_w, i32_w]; rw [c81b0]) | skip)
              have H' := am H
              clear H
              obtain ⟨hcz83_0, hcz83_1, hcz83_2, hcz83_3, hcz83_4, hcz83_5, hcz83_6, hcz83_7, hfz83_0, hfz83_1, hfz83_2, hfz83_3, hfz83_4, hfz83_5, hfz83_6, hfz83_7⟩ := bc8 BK105.out
              go_wp2
              go_meet
              case rel => exact ⟨_, ((((rd_T34 l0 x4_1).kind) == 3)), rs_, H', ⟨by have := HK1.out; have := HK2.out; have := HJ25.out; have := HJ38.out; have := HK5.out; have := HJ59.out; first | omega | exact Nat.le_refl _⟩, ⟨by (with_reducible repeat (first | apply Kd.N_alloc | apply Kd.N_drewN | apply Kd.N_drew)); exact HO_3.out⟩, ⟨pR HO_9.out⟩, ⟨pB BK105.out⟩, ⟨pL HB.out⟩⟩
             case rest =>
              clear HC80
              try clear c1
              try clear p1
              try clear q1
              try clear hx1
              try clear p2
              try clear c5
              try clear c6
              try clear p6
              try clear c7
              try clear c8
              try clear p10
              try clear q10
              try clear hx10
              try clear c15
              try clear p16
              try clear q16
              try clear hx16
              try clear c17
              try clear p17
              try clear q17
              try clear hx17
              try clear c19
              try clear c54
              try clear c54b0
              try clear c56
              try clear c56b0
              try clear c59
              try clear c69
              try clear c69b0
              try clear c69b1
              try clear c73
              try clear c81
              try clear c81b0
              try clear c81b1
              try clear hcz68_0
              try clear hcz68_1
              try clear hcz68_2
              try clear hcz68_3
              try clear hcz68_4
              try clear hcz68_5
              try clear hcz68_6
              try clear hcz68_7
              try clear hcz7_6
              try clear hcz7_7
              try clear hcz82_0
              try clear hcz82_1
              try clear hcz82_2
              try clear hcz82_3
              try clear hcz82_4
              try clear hcz82_5
              try clear hcz82_6
              try clear hcz82_7
              try clear hcz83_0
              try clear hcz83_1
              try clear hcz83_2
              try clear hcz83_3
              try clear hcz83_4
              try clear hcz83_5
              try clear hcz83_6
              try clear hcz83_7
              try clear hfz27_0
              try clear hfz27_1
              try clear hfz27_2
              try clear hfz27_3
              try clear hfz27_4
              try clear hfz27_5
              try clear hfz27_6
              try clear hfz27_7
              try clear hfz40_0
              try clear hfz40_1
              try clear hfz40_2
              try clear hfz40_3
              try clear hfz40_4
              try clear hfz40_5
              try clear hfz40_6
              try clear hfz40_7
              try clear hfz52_0
              try clear hfz52_1
              try clear hfz52_2
              try clear hfz52_3
              try clear hfz52_4
              try clear hfz52_5
              try clear hfz52_6
              try clear hfz52_7
              try clear hfz68_0
              try clear hfz68_1
              try clear hfz68_2
              try clear hfz68_3
              try clear hfz68_4
              try clear hfz68_5
              try clear hfz68_6
              try clear hfz68_7
              try clear hfz7_0
              try clear hfz7_1
              try clear hfz7_2
              try clear hfz7_3
              try clear hfz7_4
              try clear hfz7_5
              try clear hfz7_6
              try clear hfz7_7
              try clear hfz82_0
              try clear hfz82_1
              try clear hfz82_2
              try clear hfz82_3
              try clear hfz82_4
              try clear hfz82_5
              try clear hfz82_6
              try clear hfz82_7
              try clear hfz83_0
              try clear hfz83_1
              try clear hfz83_2
              try clear hfz83_3
              try clear hfz83_4
              try clear hfz83_5
              try clear hfz83_6
              try clear hfz83_7
              try clear hx104_0
              try clear hx104_1
              try clear hx104_2
              try clear hx104_3
              try clear hx104_4
              try clear hx104_5
              try clear hx104_6
              try clear hx104_7
              try clear hx163_0
              try clear hx177_0
              try clear p1
              try clear p10
              try clear p104
              try clear p16
              try clear p163
              try clear p17
              try clear p177
              try clear p2
              try clear p6
              try clear q1
              try clear q10
              try clear q104
              try clear q16
              try clear q163
              try clear q17
              try clear q177
              obtain ⟨kq, x111_79, rfl, HA, HJ79, HO_3, HO_9, BK105, HB⟩ := hcut
              cases kq with
              | zero => exact absurd HA.out (by simp [lambrequinref21_Of.j6])
              | succ kj79 =>
               have H := HA.out
               clear HA
               simp only [lambrequinref21_Of.j6] at H
               by_cases c84 : x111_79 = true
               rotate_left
               ·replace c84 := Bool.eq_false_iff.mpr c84
                subst c84
                have H1 : (lambrequinref21_Of.l2 kj79 l0 x3_59 x4_1 t129 t157 (wrap64 (x10_5 + 1)) ((rd_T34 l0 x4_1).kind) ((rd_T34 l0 x4_1).x) ((rd_T34 l0 x4_1).y) ((rd_T34 l0 x4_1).z) ((rd_T34 l0 x4_1).op) ((rd_T34 l0 x4_1).n) ((rd_T34 l0 x4_1).a) ((rd_T34 l0 x4_1).b)) = some r := by rw [if_neg (show ¬ (false = true) by decide)] at H; exact H
                clear H
                have H := H1
                clear H1
                have H' := am H
                clear H
                go_wp2
                go_roundg kj79
                case measure => have := HK1.out; have := HK2.out; have := HJ25.out; have := HJ38.out; have := HK5.out; have := HJ59.out; have := HJ79.out; omega
                case rel => exact ⟨(x3_59), (wrap64 (x10_5 + 1)), rs_, H', ⟨by have := HK1.out; have := HK2.out; have := HJ25.out; have := HJ38.out; have := HK5.out; have := HJ59.out; have := HJ79.out; omega⟩, ⟨by (with_reducible repeat (first | apply Kd.N_alloc | apply Kd.N_drewN | apply Kd.N_drew)); exact HO_3.out⟩, ⟨pR HO_9.out⟩, ⟨pB BK105.out⟩, ⟨pL HB.out⟩⟩
               subst c84
               have H1 : ((lambrequinref21_num.f x4_1).bind fun bt188 => ((lambrequinref21_sym.f t129).bind fun bt191 => (if 0 ≤ x10_5 then (if x10_5 < (t157.length : Int) then ((lambrequinref21_sym.f (rdOf ByteArray.empty t157 x10_5)).bind fun bt195 => (if x3_59.length < 3518437208883 then (lambrequinref21_Of.l2 kj79 l0 (x3_59 ++ [(⟨(⟨#[102, 108, 111, 119]⟩ : ByteArray), (([(⟨bt188.1, bt188.2.1, bt188.2.2⟩ : Val), (⟨bt191.1, bt191.2.1, bt191.2.2⟩ : Val), (⟨bt195.1, bt195.2.1, bt195.2.2⟩ : Val)] : List (Val)))⟩ : Fact)]) x4_1 t129 t157 (wrap64 (x10_5 + 1)) ((rd_T34 l0 x4_1).kind) ((rd_T34 l0 x4_1).x) ((rd_T34 l0 x4_1).y) ((rd_T34 l0 x4_1).z) ((rd_T34 l0 x4_1).op) ((rd_T34 l0 x4_1).n) ((rd_T34 l0 x4_1).a) ((rd_T34 l0 x4_1).b)) else (none))) else (none)) else (none)))) = some r := by rw [if_pos rfl] at H; exact H
               clear H
               have H := H1
               clear H1
               replace H := Option.bind_eq_some_iff.mp H
               obtain ⟨⟨t188, t189, t190⟩, A850, H⟩ := H
               replace H : ((lambrequinref21_sym.f t129).bind fun bt191 => (if 0 ≤ x10_5 then (if x10_5 < (t157.length : Int) then ((lambrequinref21_sym.f (rdOf ByteArray.empty t157 x10_5)).bind fun bt195 => (if x3_59.length < 3518437208883 then (lambrequinref21_Of.l2 kj79 l0 (x3_59 ++ [(⟨(⟨#[102, 108, 111, 119]⟩ : ByteArray), (([(⟨t188, t189, t190⟩ : Val), (⟨bt191.1, bt191.2.1, bt191.2.2⟩ : Val), (⟨bt195.1, bt195.2.1, bt195.2.2⟩ : Val)] : List (Val)))⟩ : Fact)]) x4_1 t129 t157 (wrap64 (x10_5 + 1)) ((rd_T34 l0 x4_1).kind) ((rd_T34 l0 x4_1).x) ((rd_T34 l0 x4_1).y) ((rd_T34 l0 x4_1).z) ((rd_T34 l0 x4_1).op) ((rd_T34 l0 x4_1).n) ((rd_T34 l0 x4_1).a) ((rd_T34 l0 x4_1).b)) else (none))) else (none)) else (none))) = some r := H
               have A85 := am A850
               clear A850
               replace H := Option.bind_eq_some_iff.mp H
               obtain ⟨⟨t191, t192, t193⟩, A860, H⟩ := H
               replace H : (if 0 ≤ x10_5 then (if x10_5 < (t157.length : Int) then ((lambrequinref21_sym.f (rdOf ByteArray.empty t157 x10_5)).bind fun bt195 => (if x3_59.length < 3518437208883 then (lambrequinref21_Of.l2 kj79 l0 (x3_59 ++ [(⟨(⟨#[102, 108, 111, 119]⟩ : ByteArray), (([(⟨t188, t189, t190⟩ : Val), (⟨t191, t192, t193⟩ : Val), (⟨bt195.1, bt195.2.1, bt195.2.2⟩ : Val)] : List (Val)))⟩ : Fact)]) x4_1 t129 t157 (wrap64 (x10_5 + 1)) ((rd_T34 l0 x4_1).kind) ((rd_T34 l0 x4_1).x) ((rd_T34 l0 x4_1).y) ((rd_T34 l0 x4_1).z) ((rd_T34 l0 x4_1).op) ((rd_T34 l0 x4_1).n) ((rd_T34 l0 x4_1).a) ((rd_T34 l0 x4_1).b)) else (none))) else (none)) else (none)) = some r := H
               have A86 := am A860
               clear A860
               by_cases c87 : 0 ≤ x10_5
               rotate_left
               ·rw [if_neg c87] at H
                exact absurd H (by simp)
               rw [if_pos c87] at H
               have c87b0 : decide (0 ≤ x10_5) = true := decide_eq_true c87
               clear c87
               by_cases c88 : x10_5 < (t157.length : Int)
               rotate_left
               ·rw [if_neg c88] at H
                exact absurd H (by simp)
               rw [if_pos c88] at H
               have c88b0 : decide (x10_5 < (t157.length : Int)) = true := decide_eq_true c88
               clear c88
               replace H := Option.bind_eq_some_iff.mp H
               obtain ⟨⟨t195, t196, t197⟩, A890, H⟩ := H
               replace H : (if x3_59.length < 3518437208883 then (lambrequinref21_Of.l2 kj79 l0 (x3_59 ++ [(⟨(⟨#[102, 108, 111, 119]⟩ : ByteArray), (([(⟨t188, t189, t190⟩ : Val), (⟨t191, t192, t193⟩ : Val), (⟨t195, t196, t197⟩ : Val)] : List (Val)))⟩ : Fact)]) x4_1 t129 t157 (wrap64 (x10_5 + 1)) ((rd_T34 l0 x4_1).kind) ((rd_T34 l0 x4_1).x) ((rd_T34 l0 x4_1).y) ((rd_T34 l0 x4_1).z) ((rd_T34 l0 x4_1).op) ((rd_T34 l0 x4_1).n) ((rd_T34 l0 x4_1).a) ((rd_T34 l0 x4_1).b)) else (none)) = some r := H
               have A89 := am A890
               clear A890
               obtain ⟨y198, hy198⟩ : ∃ y_ : List (Val), y_ = (([(⟨t188, t189, t190⟩ : Val), (⟨t191, t192, t193⟩ : Val), (⟨t195, t196, t197⟩ : Val)] : List (Val))) := ⟨_, rfl⟩
               replace H : (if x3_59.length < 3518437208883 then (lambrequinref21_Of.l2 kj79 l0 (x3_59 ++ [(⟨(⟨#[102, 108, 111, 119]⟩ : ByteArray), y198⟩ : Fact)]) x4_1 t129 t157 (wrap64 (x10_5 + 1)) ((rd_T34 l0 x4_1).kind) ((rd_T34 l0 x4_1).x) ((rd_T34 l0 x4_1).y) ((rd_T34 l0 x4_1).z) ((rd_T34 l0 x4_1).op) ((rd_T34 l0 x4_1).n) ((rd_T34 l0 x4_1).a) ((rd_T34 l0 x4_1).b)) else (none)) = some r := by first | (rw [hy198]; with_reducible exact H) | (have H2_ := (Option.bind_some _ _).symm.trans H; rw [hy198]; with_reducible exact H2_) | (have H2_ := (Option.bind_some _ _).symm.trans H; with_reducible exact H2_) | with_reducible exact H | (rw [hy198]; exact H) | exact H
               have Ny198 := am hy198
               clear hy198
               by_cases c90 : x3_59.length < 3518437208883
               rotate_left
               ·rw [if_neg c90] at H
                exact absurd H (by simp)
               rw [if_pos c90] at H
               have LMc90 := am c90
               clear c90
               obtain ⟨y201, hy201⟩ : ∃ y_ : List (Fact), y_ = (x3_59 ++ [(⟨(⟨#[102, 108, 111, 119]⟩ : ByteArray), y198⟩ : Fact)]) := ⟨_, rfl⟩
               replace H : (lambrequinref21_Of.l2 kj79 l0 y201 x4_1 t129 t157 (wrap64 (x10_5 + 1)) ((rd_T34 l0 x4_1).kind) ((rd_T34 l0 x4_1).x) ((rd_T34 l0 x4_1).y) ((rd_T34 l0 x4_1).z) ((rd_T34 l0 x4_1).op) ((rd_T34 l0 x4_1).n) ((rd_T34 l0 x4_1).a) ((rd_T34 l0 x4_1).b)) = some r := by first | (rw [hy201]; with_reducible exact H) | (have H2_ := (Option.bind_some _ _).symm.trans H; rw [hy201]; with_reducible exact H2_) | (have H2_ := (Option.bind_some _ _).symm.trans H; with_reducible exact H2_) | with_reducible exact H | (rw [hy201]; exact H) | exact H
               have Ny201 := am hy201
               clear hy201
               have H' := am H
               clear H
               try go_wp2
               replace HO_3 := am (Kd.N_drew HO_3.out)
               replace HO_9 := am (Kd.R_drew HO_9.out)
               replace BK105 := am (blk_drew BK105.out)
               replace HB := am (below_drew1 HB.out)
               have p194 : 0 ≤ (x10_5 : Int) := dt_
               have q194 : x10_5 < (t157.length : Int) := dt_
               obtain ⟨ad194, e194, hx194_0⟩ := Kd.at_string (Kd.R_reads' HO_9.out).2.2 x10_5 p194 q194
               obtain rfl : ad163 = ad194 := (by injection e194)
               replace p194 := eq_true p194
               replace q194 := eq_true q194
               refine start_ (n := 15) (S := fun w' => w'.cell? (ad163.add (x10_5).toNat) = some (.string (rdOf ByteArray.empty t157 x10_5))) (ds := [12, 13]) (bl 15 0) (by kernel_rfl) rfl rfl (hx194_0) (fun hHeld => ?_); refine with_tabW lambrequinref21_Of.tab25 lambrequinref21_Of.bits25 (fun HT_ HW_ => ?_)
               generalize wc.drew = w91 at HO_3 HO_9 BK105 HB hx194_0 hHeld ⊢
               refine pu_ (i := 0) (N := some 112) (bl 15 1) rfl rfl (any_of HT_.out (by kernel_rfl)) ?_
               refine pu_ (i := 1) (N := some 113) (bl 15 3) rfl rfl (any_of HT_.out (by kernel_rfl)) ?_
               refine pu_ (i := 3) (N := some 115) (bl 15 11) rfl rfl (any_of HT_.out (by kernel_rfl)) ?_
               refine pu_ (i := 5) (N := some 117) (bl 15 43) rfl rfl (any_of HT_.out (by kernel_rfl)) ?_
               refine pu_ (i := 6) (N := some 118) (bl 15 107) rfl rfl (any_of HT_.out (by kernel_rfl)) ?_
               refine pu_ (i := 7) (N := some 119) (bl 15 235) rfl rfl (any_of HT_.out (by kernel_rfl)) ?_
               refine take_ (i := 8) (N := some 120) (v := ?_) (a' := ?_) (bl 15 491) rfl rfl (take_ofW HT_.out HW_.out (by kernel_rfl)) (fun _ _ _ h => h) (Or.inl ⟨by rfl, ?_⟩) hHeld ?_ ?_
               rotate_left
               ·intro w' s0
                go_simp
                with_reducible rfl
               rotate_left
               ·simp only [Act.put, sA, sZ, sS, i64_w, i32_w]
                rfl
               refine one_ (i := 2) (N := some 114) (bl 15 495) rfl rfl (one_of HT_.out (by kernel_rfl)) (by decide) (fun K hK => ?_)
               refine goes_ Tryz.func15 (by kernel_rfl) rfl #[.int .i64 x4_1] (by rfl) rfl rfl gl_ ?_
               with_reducible refine (lambrequinref21_num.calls x4_1 t188 t189 t190 _ A85.out).mono ?_
               rintro e w92 ⟨rfl, hb⟩
               have HS0_ := (hb.cell (blt_ (hHeld))).trans (hHeld)
               refine ⟨_, rfl, ?_⟩
               replace HO_3 := am (Kd.N_below (by (with_reducible repeat (first | apply Kd.N_alloc | apply Kd.N_drewN | apply Kd.N_drew)); exact HO_3.out) hb)
               replace HO_9 := am (Rb_ HO_9.out hb)
               replace BK105 := am (bb_ BK105.out hb)
               replace HB := am (bs_ HB.out hb)
               (try clear hb)
               (try clear hb2)
               (try clear hk)
               (try clear hi)
               refine hK.out _ _ (HS0_) (fun hHeld => ?_)
               clear hK K
               refine norm_ (a' := ?_) ?_ ?_
               rotate_left
               ·show Act.put _ (some 114) _ = _
                simp only [Act.put, sA, sZ, sS, i64_w, i32_w]
                rfl
               refine one_ (i := 4) (N := some 116) (bl 15 511) rfl rfl (one_of HT_.out (by kernel_rfl)) (by decide) (fun K hK => ?_)
               refine goes_ Tryz.func19 (by kernel_rfl) rfl #[.string t129] (by rfl) rfl rfl gl_ ?_
               with_reducible refine (lambrequinref21_sym.calls t129 t191 t192 t193 _ A86.out).mono ?_
               rintro e w93 ⟨rfl, hb⟩
               have HS0_ := (hb.cell (blt_ (hHeld))).trans (hHeld)
               refine ⟨_, rfl, ?_⟩
               replace HO_3 := am (Kd.N_below (by (with_reducible repeat (first | apply Kd.N_alloc | apply Kd.N_drewN | apply Kd.N_drew)); exact HO_3.out) hb)
               replace HO_9 := am (Rb_ HO_9.out hb)
               replace BK105 := am (bb_ BK105.out hb)
               replace HB := am (bs_ HB.out hb)
               (try clear hb)
               (try clear hb2)
               (try clear hk)
               (try clear hi)
               refine hK.out _ _ (HS0_) (fun hHeld => ?_)
               clear hK K
               refine norm_ (a' := ?_) ?_ ?_
               rotate_left
               ·show Act.put _ (some 116) _ = _
                simp only [Act.put, sA, sZ, sS, i64_w, i32_w]
                rfl
               refine one_ (i := 9) (N := some 121) (bl 15 1023) rfl rfl (one_of HT_.out (by kernel_rfl)) (by decide) (fun K hK => ?_)
               refine goes_ Tryz.func19 (by kernel_rfl) rfl #[.string (rdOf ByteArray.empty t157 x10_5)] (by rfl) rfl rfl gl_ ?_
               with_reducible refine (lambrequinref21_sym.calls (rdOf ByteArray.empty t157 x10_5) t195 t196 t197 _ A89.out).mono ?_
               rintro e w94 ⟨rfl, hb⟩
               have HS0_ := (hb.cell (blt_ (hHeld))).trans (hHeld)
               refine ⟨_, rfl, ?_⟩
               replace HO_3 := am (Kd.N_below (by (with_reducible repeat (first | apply Kd.N_alloc | apply Kd.N_drewN | apply Kd.N_drew)); exact HO_3.out) hb)
               replace HO_9 := am (Rb_ HO_9.out hb)
               replace BK105 := am (bb_ BK105.out hb)
               replace HB := am (bs_ HB.out hb)
               (try clear hb)
               (try clear hb2)
               (try clear hk)
               (try clear hi)
               refine hK.out _ _ (HS0_) (fun hHeld => ?_)
               clear hK K
               refine norm_ (a' := ?_) ?_ ?_
               rotate_left
               ·show Act.put _ (some 121) _ = _
                simp only [Act.put, sA, sZ, sS, i64_w, i32_w]
                rfl
               refine one_ (i := 10) (N := some 122) (bl 15 2047) rfl rfl (one_of HT_.out (by kernel_rfl)) (by decide) (fun K hK => ?_)
               refine Kd.R_lit_step k36 _ 36 ?hg (N := 122) ?hd (xs := ([(⟨t188, t189, t190⟩ : Val), (⟨t191, t192, t193⟩ : Val), (⟨t195, t196, t197⟩ : Val)] : List (Val))) (inner := [.bool t188, .string t189, .int .i64 t190, .bool t191, .string t192, .int .i64 t193, .bool t195, .string t196, .int .i64 t197]) (ok := fun _ => True) (okp := fun _ => True) ?hr ?hp (fun _ hk => hk) trivial (Below.refl _ _) (Nat.le_refl _) (by simp) ?_; (case hd => rfl); (case hg => rfl); (case hr => first | (go_simp; done) | (go_simp; rfl)); (case hp => exact (Reps.c3 (show Kd.M k36 _ _ _ (⟨t188, t189, t190⟩ : Val) [.bool t188, .string t189, .int .i64 t190] from (k36_mkM _ _ _ (⟨t188, t189, t190⟩ : Val) )) (Reps.c3 (show Kd.M k36 _ _ _ (⟨t191, t192, t193⟩ : Val) [.bool t191, .string t192, .int .i64 t193] from (k36_mkM _ _ _ (⟨t191, t192, t193⟩ : Val) )) (Reps.c3 (show Kd.M k36 _ _ _ (⟨t195, t196, t197⟩ : Val) [.bool t195, .string t196, .int .i64 t197] from (k36_mkM _ _ _ (⟨t195, t196, t197⟩ : Val) )) (Reps.none _ _)))))
               intro v199 w95 ho96 hb hg_ hnew_
               have HS0_ := (hb.cell (blt_ (hHeld))).trans (hHeld)
               clear hg_ hnew_
               (first | rw [← Ny198.out] at ho96 | (simp only [Int.reduceToNat] at ho96; rw [← Ny198.out] at ho96))
               replace HO_3 := am (Kd.N_elder' (by (with_reducible repeat (first | apply Kd.N_alloc | apply Kd.N_drewN | apply Kd.N_drew)); exact HO_3.out) (Kd.R_base ho96) hb)
               replace HO_9 := am (Rb_ HO_9.out hb)
               have HO200 := am (Kd.R_lower (Kd.R_newM (M := fun k_ => (w.heap.size ≤ k_)) ho96 (below_size (pL HB.out)) (fun k_ h_ => h_)) (below_size (pL HB.out)))
               replace BK105 := am (bb_ BK105.out hb)
               replace HB := am (bs_ HB.out hb)
               clear hb ho96
               obtain ⟨Ao97, co97, eo97⟩ := Kd.R_slice HO200.out
               (first | subst eo97 | (injection eo97 with f1_ f2_ f3_; have f4_ := f1_.symm; have f5_ := f3_.symm; clear f1_ f2_ f3_; subst f4_; subst f5_))
               refine hK.out _ _ (HS0_) (fun hHeld => ?_)
               clear hK K
               refine norm_ (a' := ?_) ?_ ?_
               rotate_left
               ·show Act.put _ (some 122) _ = _
                simp only [Act.put, sA, sZ, sS, i64_w, i32_w]
                rfl
               refine pu_ (i := 11) (N := some 123) (bl 15 4095) rfl rfl (any_of HT_.out (by kernel_rfl)) ?_
               refine last_ (i := 12) (N := some 124) (bl 15 8191) rfl rfl (one_of HT_.out (by kernel_rfl)) (by decide) (fun K hK => ?_)
               refine value_ (w1 := ?_) (v := ?_) (by rfl) rfl ?_ ?_
               rotate_left 2
               ·go_simp
                constructor
                ·rfl
                rfl
               refine hK.out _ _ ?_
               clear hK K
               refine norm_ (a' := ?_) ?_ ?_
               rotate_left
               ·show Act.put _ (some 124) _ = _
                simp only [Act.put, sA, sZ, sS, i64_w, i32_w]
                rfl
               refine last_ (i := 13) (N := some 125) (bl 15 16383) rfl rfl (one_of HT_.out (by kernel_rfl)) (by decide) (fun K hK => ?_)
               refine Kd.N_append_step k26 (w0 := w) w.heap.size (by rfl) (.tmp 112) (.tmp 124) 23 26 (.agg #[(.string ⟨#[]⟩), (.slice none 0 0)]) 40 rfl Tryz.underlying23 info26 rfl (by decide) (by omega) u3 x3_59 (⟨(⟨#[102, 108, 111, 119]⟩ : ByteArray), y198⟩ : Fact) [.string (⟨#[102, 108, 111, 119]⟩ : ByteArray), .slice Ao97 y198.length co97] (fun k_ => (w.heap.size ≤ k_) ∧ some k_ ≠ (.slice (some ad163) t157.length co61 : Value).ownBlock ∧ k_ ≠ gb105) (fun k_ => ((fun k_ => (w.heap.size ≤ k_) ∧ some k_ ≠ (.slice (some ad163) t157.length co61 : Value).ownBlock ∧ k_ ≠ gb105)) k_ ∧ some k_ ≠ (u3 : Value).ownBlock) rfl rfl ?aP (fun _ hk => hk) ?aF ?aO ?aB ?aS ?aL ?_
               (case aP => exact (k26_mkF _ _ (⟨(⟨#[102, 108, 111, 119]⟩ : ByteArray), y198⟩ : Fact) (Kd.R_reads' (Kd.R_mono (ok' := (fun k_ => ((fun k_ => (w.heap.size ≤ k_) ∧ some k_ ≠ (.slice (some ad163) t157.length co61 : Value).ownBlock ∧ k_ ≠ gb105)) k_ ∧ some k_ ≠ (u3 : Value).ownBlock)) (Kd.R_types (Kd.R_apart' (Kd.R_apart' (HO200.out) (Kd.R_typed HO_9.out) (by decide)) (Kd.N_typed HO_3.out) (by decide)) BK105.out (by decide)) (fun k_ hk => ⟨⟨hk.1.1.1.1, ⟨hk.1.1.2, hk.2⟩⟩, hk.1.2⟩))).2.1 (Kd.R_F (Kd.R_mono (ok' := (fun k_ => ((fun k_ => (w.heap.size ≤ k_) ∧ some k_ ≠ (.slice (some ad163) t157.length co61 : Value).ownBlock ∧ k_ ≠ gb105)) k_ ∧ some k_ ≠ (u3 : Value).ownBlock)) (Kd.R_types (Kd.R_apart' (Kd.R_apart' (HO200.out) (Kd.R_typed HO_9.out) (by decide)) (Kd.N_typed HO_3.out) (by decide)) BK105.out (by decide)) (fun k_ hk => ⟨⟨hk.1.1.1.1, ⟨hk.1.1.2, hk.2⟩⟩, hk.1.2⟩)))))
               (case aB => exact (pL HB.out))
               (case aF => exact (fun k_ hk => ⟨(Nat.le_trans (below_size (pL HB.out)) hk), Kd.fresh' (Kd.R_lt (pR HO_9.out)) k_ hk, Kd.freshB (g := gb105) (pB BK105.out) k_ hk⟩))
               (case aO => exact (by (with_reducible repeat (first | apply Kd.N_alloc | apply Kd.N_drewN | apply Kd.N_drew)); exact Kd.N_mono HO_3.out (fun _ hk => ⟨hk.1.1, ⟨hk.1.2.1, hk.1.2.2⟩⟩)))
               (case aS => exact (below_size (pL HB.out)))
               (case aL => have := LMc90.out; omega)
               intro v202 w98 ho hb hg hat
               rw [← Ny201.out] at ho
               replace HO_9 := am (Kd.R_over' (pR HO_9.out) (Kd.N_typed (by (with_reducible repeat (first | apply Kd.N_alloc | apply Kd.N_drewN | apply Kd.N_drew)); exact HO_3.out)) (by decide) hg)
               replace BK105 := am (blk_grown (pB BK105.out) hg (Kd.N_ne HO_3.out BK105.out (by decide)))
               replace HB := am (hb)
               have HO203 := am (ho)
               clear HO_3 HO200
               clear ho hb hg hat
               refine hK.out _ _ ?_
               clear hK K
               refine norm_ (a' := ?_) ?_ ?_
               rotate_left
               ·show Act.put _ (some 125) _ = _
                simp only [Act.put, sA, sZ, sS, i64_w, i32_w]
                rfl
               refine pu_ (i := 14) (N := some 3) (bl 15 32767) rfl rfl (any_of HT_.out (by kernel_rfl)) ?_
               refine done_ (done_of HT_.out (by kernel_rfl)) ?_
               try go_wp2
               go_roundg kj79
               case measure => have := HK1.out; have := HK2.out; have := HJ25.out; have := HJ38.out; have := HK5.out; have := HJ59.out; have := HJ79.out; omega
               case rel => exact ⟨(y201), (wrap64 (x10_5 + 1)), rs_, H', ⟨by have := HK1.out; have := HK2.out; have := HJ25.out; have := HJ38.out; have := HK5.out; have := HJ59.out; have := HJ79.out; omega⟩, ⟨by (with_reducible repeat (first | apply Kd.N_alloc | apply Kd.N_drewN | apply Kd.N_drew)); exact HO203.out⟩, ⟨pR HO_9.out⟩, ⟨pB BK105.out⟩, ⟨pL HB.out⟩⟩
end Go.Proofs.YtoekfmdcplphmaaGreat.H
/- the document's facts of a flow are the program's -/
namespace Go.Proofs.YtoekfmdcplphmaaGreat.H
open Go.RowKit Go.Proofs.YtoekfmdcplphmaaGreatW.PrintWords
def flowR (st : Stmt) (n : Int) (x y : ByteArray) : List Fact := if st.kind = 2 ∨ st.kind = 3 then [fFlow n x y] else []
def useR (st : Stmt) (n : Int) (x y : ByteArray) : List Fact := fUse n y :: ((if st.kind = 6 then [fSink n y] else []) ++ flowR st n x y)
def srcR (st : Stmt) (n : Int) (x : ByteArray) : List Fact := if st.kind = 4 then [fSource n x] else []
def tailR (st : Stmt) (n : Int) : List Fact := (if (defN st).2 = true then [fDef n (defN st).1] else []) ++ (srcR st n (defN st).1 ++ (usesS st).flatMap (useR st n (defN st).1))
def nextR (s : List Stmt) (n : Int) (m : Nat) : List Fact := if (m : Int) ∈ nxt s n then [fNext n m] else []
def refOne (s : List Stmt) (n : Int) : List Fact := fNode n :: ((List.range' 0 s.length).flatMap (nextR s n) ++ tailR (at_ s n) n)
section
variable (s : List Stmt) (hs : s.length ≤ 1000) (n : Nat) (hn : n < s.length) (R : List Fact)
include hs hn
theorem r21_j6 (us : List ByteArray) (hu : us.length ≤ 1000) (x : ByteArray) (st : Stmt) (y : ByteArray) (r : List ByteArray) (i : Nat) (acc : List Fact) (h : us.drop i = y :: r) (ha : acc.length ≤ 100000000) (b : Bool) (hb : b = decide (st.kind = 2 ∨ st.kind = 3))
    (rec : Ev (fun k => lambrequinref21_Of.l2 k s (acc ++ flowR st n x y) n x us ((i + 1 : Nat) : Int) st.kind st.x st.y st.z st.op st.n st.a st.b) R) :
    Ev (fun k => lambrequinref21_Of.j6 k s acc n x us i b st.kind st.x st.y st.z st.op st.n st.a st.b) R := by
  obtain ⟨g1, g2, g3, g4, g5⟩ := drop_more h (by omega)
  refine Ev.step (fun k => by rw [lambrequinref21_Of.j6]) ?_
  rw [show rdOf ByteArray.empty us i = y from g3 _, g5]
  by_cases c : st.kind = 2 ∨ st.kind = 3
  · refine Ev.pos (by rw [hb]; exact decide_eq_true c) ?_
    refine Ev.pure rfl (Ev.pure rfl (Ev.pos g2 (Ev.pos g1 (Ev.pure rfl (Ev.pos (by omega) ?_)))))
    unfold flowR at rec
    rw [if_pos c] at rec
    exact rec
  · refine Ev.neg (by rw [hb]; simpa using c) ?_
    unfold flowR at rec
    rw [if_neg c, List.append_nil] at rec
    exact rec
theorem r21_j5 (us : List ByteArray) (hu : us.length ≤ 1000) (x : ByteArray) (st : Stmt) (y : ByteArray) (r : List ByteArray) (i : Nat) (acc : List Fact) (h : us.drop i = y :: r) (ha : acc.length ≤ 100000000)
    (rec : Ev (fun k => lambrequinref21_Of.l2 k s (acc ++ flowR st n x y) n x us ((i + 1 : Nat) : Int) st.kind st.x st.y st.z st.op st.n st.a st.b) R) :
    Ev (fun k => lambrequinref21_Of.j5 k s acc n x us i st.kind st.x st.y st.z st.op st.n st.a st.b) R := by
  refine Ev.step (fun k => by rw [lambrequinref21_Of.j5]) ?_
  by_cases k2 : st.kind = 2
  · exact Ev.pos k2 (r21_j6 s hs n hn R us hu x st y r i acc h ha true (by simp [k2]) rec)
  · exact Ev.neg k2 (r21_j6 s hs n hn R us hu x st y r i acc h ha (st.kind == 3) (by rw [Bool.eq_iff_iff]; simp [k2]) rec)
theorem r21_l2 (us : List ByteArray) (hu : us.length ≤ 1000) (x : ByteArray) (st : Stmt) : ∀ (r : List ByteArray) (i : Nat) (acc : List Fact), us.drop i = r → acc.length + 3 * r.length ≤ 1000000 →
    Ev (fun k => lambrequinref21_Of.l0 k s (acc ++ r.flatMap (useR st n x)) ((n + 1 : Nat) : Int)) R → Ev (fun k => lambrequinref21_Of.l2 k s acc n x us i st.kind st.x st.y st.z st.op st.n st.a st.b) R
  | [], i, acc, h, ha, go => by
    refine Ev.step (fun k => by rw [lambrequinref21_Of.l2]) ?_
    refine Ev.neg (drop_end h) ?_
    rw [wrap_up (by omega)]
    rw [List.flatMap_nil, List.append_nil] at go
    exact go
  | y :: r, i, acc, h, ha, go => by
    obtain ⟨g1, g2, g3, g4, g5⟩ := drop_more h (by omega)
    rw [List.length_cons] at ha
    refine Ev.step (fun k => by rw [lambrequinref21_Of.l2]) ?_
    refine Ev.pos g1 (Ev.pure rfl (Ev.pos g2 ?_))
    rw [show rdOf ByteArray.empty us i = y from g3 _]
    refine Ev.pure rfl (Ev.pure rfl (Ev.pos (by omega) (Ev.pure rfl ?_)))
    by_cases k6 : st.kind = 6
    · refine Ev.pos k6 (Ev.pure rfl (Ev.pure rfl (Ev.pure rfl (Ev.pos (by rw [List.length_append]; simp; omega) ?_))))
      refine r21_j5 s hs n hn R us hu x st y r i (acc ++ [fUse n y] ++ [fSink n y]) h (by simp; omega) ?_
      refine r21_l2 us hu x st r (i + 1) _ g4 (by unfold flowR; split <;> simp <;> omega) ?_
      exact (congrArg (fun z => Ev (fun k => lambrequinref21_Of.l0 k s z ((n + 1 : Nat) : Int)) R) (by simp [useR, k6])).mpr go
    · refine Ev.neg k6 ?_
      refine r21_j5 s hs n hn R us hu x st y r i (acc ++ [fUse n y]) h (by simp; omega) ?_
      refine r21_l2 us hu x st r (i + 1) _ g4 (by unfold flowR; split <;> simp <;> omega) ?_
      exact (congrArg (fun z => Ev (fun k => lambrequinref21_Of.l0 k s z ((n + 1 : Nat) : Int)) R) (by simp [useR, k6])).mpr go
theorem r21_j3 (x : ByteArray) (st : Stmt) (acc : List Fact) (ha : acc.length ≤ 100000)
    (go : Ev (fun k => lambrequinref21_Of.l0 k s (acc ++ (usesS st).flatMap (useR st n x)) ((n + 1 : Nat) : Int)) R) : Ev (fun k => lambrequinref21_Of.j3 k s acc n x st.kind st.x st.y st.z st.op st.n st.a st.b) R := by
  have hu := usesS_len st
  refine Ev.step (fun k => by rw [lambrequinref21_Of.j3]) ?_
  exact Ev.bind (rUses_ev st) (r21_l2 s hs n hn R (usesS st) (by omega) x st (usesS st) 0 acc rfl (by omega) go)
theorem r21_j2 (x : ByteArray) (st : Stmt) (acc : List Fact) (ha : acc.length ≤ 90000)
    (go : Ev (fun k => lambrequinref21_Of.l0 k s (acc ++ (srcR st n x ++ (usesS st).flatMap (useR st n x))) ((n + 1 : Nat) : Int)) R) : Ev (fun k => lambrequinref21_Of.j2 k s acc n x st.kind st.x st.y st.z st.op st.n st.a st.b) R := by
  refine Ev.step (fun k => by rw [lambrequinref21_Of.j2]) ?_
  by_cases k4 : st.kind = 4
  · refine Ev.pos k4 (Ev.pure rfl (Ev.pure rfl (Ev.pure rfl (Ev.pos (by omega) ?_))))
    refine r21_j3 s hs n hn R x st (acc ++ [fSource n x]) (by simp; omega) ?_
    exact (congrArg (fun z => Ev (fun k => lambrequinref21_Of.l0 k s z ((n + 1 : Nat) : Int)) R) (by simp [srcR, k4])).mpr go
  · refine Ev.neg k4 ?_
    refine r21_j3 s hs n hn R x st acc (by omega) ?_
    exact (congrArg (fun z => Ev (fun k => lambrequinref21_Of.l0 k s z ((n + 1 : Nat) : Int)) R) (by simp [srcR, k4])).mpr go
theorem r21_l1 (st : Stmt) : ∀ (d i : Nat) (acc : List Fact), i + d = s.length → acc.length + d ≤ 80000 →
    Ev (fun k => lambrequinref21_Of.l0 k s (acc ++ ((List.range' i d).flatMap (nextR s n) ++ tailR st n)) ((n + 1 : Nat) : Int)) R → Ev (fun k => lambrequinref21_Of.l1 k s acc n i st.kind st.x st.y st.z st.op st.n st.a st.b) R
  | 0, i, acc, h, ha, go => by
    refine Ev.step (fun k => by rw [lambrequinref21_Of.l1]) ?_
    refine Ev.neg (by omega) (Ev.pure (rDef_eq st) ?_)
    by_cases hd : (defN st).2 = true
    · refine Ev.pos hd (Ev.pure rfl (Ev.pure rfl (Ev.pure rfl (Ev.pos (by omega) ?_))))
      refine r21_j2 s hs n hn R (defN st).1 st (acc ++ [fDef n (defN st).1]) (by simp; omega) ?_
      exact (congrArg (fun z => Ev (fun k => lambrequinref21_Of.l0 k s z ((n + 1 : Nat) : Int)) R) (by simp [tailR, hd])).mpr go
    · refine Ev.neg hd ?_
      refine r21_j2 s hs n hn R (defN st).1 st acc (by omega) ?_
      exact (congrArg (fun z => Ev (fun k => lambrequinref21_Of.l0 k s z ((n + 1 : Nat) : Int)) R) (by simp [tailR, hd])).mpr go
  | d + 1, i, acc, h, ha, go => by
    refine Ev.step (fun k => by rw [lambrequinref21_Of.l1]) ?_
    refine Ev.pos (by omega) (Ev.bind (Leads_ev s n i) ?_)
    rw [wrap_up (by omega)]
    rw [List.range'_succ, List.flatMap_cons] at go
    by_cases hm : (i : Int) ∈ nxt s n
    · refine Ev.pos (decide_eq_true hm) (Ev.pure rfl (Ev.pure rfl (Ev.pure rfl (Ev.pos (by omega) ?_))))
      refine r21_l1 st d (i + 1) (acc ++ [fNext n i]) (by omega) (by simp; omega) ?_
      exact (congrArg (fun z => Ev (fun k => lambrequinref21_Of.l0 k s z ((n + 1 : Nat) : Int)) R) (by simp [nextR, hm])).mpr go
    · refine Ev.neg (by simpa using hm) ?_
      refine r21_l1 st d (i + 1) acc (by omega) (by omega) ?_
      exact (congrArg (fun z => Ev (fun k => lambrequinref21_Of.l0 k s z ((n + 1 : Nat) : Int)) R) (by simp [nextR, hm])).mpr go
end
theorem refOne_len (s : List Stmt) (n : Int) : (refOne s n).length ≤ s.length + 10 := by
  have h1 : ∀ l : List Nat, (l.flatMap (nextR s n)).length ≤ l.length := by
    intro l
    induction l with
    | nil => simp
    | cons a l ih =>
      rw [List.flatMap_cons, List.length_append, List.length_cons]
      have : (nextR s n a).length ≤ 1 := by unfold nextR; split <;> simp
      omega
  have h2 : ∀ (st : Stmt) (x : ByteArray) (l : List ByteArray), (l.flatMap (useR st n x)).length ≤ 3 * l.length := by
    intro st x l
    induction l with
    | nil => simp
    | cons a l ih =>
      rw [List.flatMap_cons, List.length_append, List.length_cons]
      have : (useR st n x a).length ≤ 3 := by unfold useR flowR; split <;> split <;> simp
      omega
  have h3 := h1 (List.range' 0 s.length)
  have h4 := h2 (at_ s n) (defN (at_ s n)).1 (usesS (at_ s n))
  have h5 := usesS_len (at_ s n)
  have h6 : (srcR (at_ s n) n (defN (at_ s n)).1).length ≤ 1 := by unfold srcR; split <;> simp
  have h7 : (if (defN (at_ s n)).2 = true then [fDef n (defN (at_ s n)).1] else []).length ≤ 1 := by split <;> simp
  unfold refOne tailR
  rw [List.length_cons, List.length_append, List.length_append, List.length_append]
  rw [List.length_range'] at h3
  omega
theorem mem_refOne {s : List Stmt} {n : Int} (h0 : 0 ≤ n) (h1 : n < (s.length : Int)) {f : Fact} : f ∈ refOne s n ↔ f ∈ oneL s n := by
  have hk : ∀ st : Stmt, st.kind = 2 ∨ st.kind = 3 ∨ st.kind = 4 → (defN st).2 = true := by
    intro st h
    unfold defN
    rw [if_pos (by omega)]
  rw [mem_oneL]
  unfold refOne tailR
  rw [List.mem_cons, List.mem_append, List.mem_append, List.mem_append, List.mem_flatMap, List.mem_flatMap]
  have hN : (∃ a ∈ List.range' 0 s.length, f ∈ nextR s n a) ↔ ∃ m ∈ nxt s n, f = fNext n m := by
    constructor
    · rintro ⟨a, ha, h⟩
      unfold nextR at h
      split at h
      · rename_i hm
        exact ⟨a, hm, by simpa using h⟩
      · simp at h
    · rintro ⟨m, hm, rfl⟩
      have hw := nxt_within hm
      refine ⟨m.toNat, ?_, ?_⟩
      · rw [List.mem_range']
        exact ⟨m.toNat, by omega, by omega⟩
      · unfold nextR
        rw [show ((m.toNat : Nat) : Int) = m by omega, if_pos hm]
        simp
  have hD : (f ∈ if (defN (at_ s n)).2 = true then [fDef n (defN (at_ s n)).1] else []) ↔ (defN (at_ s n)).2 = true ∧ f = fDef n (defN (at_ s n)).1 := by
    split
    · rename_i h; simp [h]
    · rename_i h; simp [h]
  have hS : f ∈ srcR (at_ s n) n (defN (at_ s n)).1 ↔ (defN (at_ s n)).2 = true ∧ (at_ s n).kind = 4 ∧ f = fSource n (defN (at_ s n)).1 := by
    unfold srcR
    split
    · rename_i h; simp [h, hk _ (.inr (.inr h))]
    · rename_i h; simp [h]
  have hU : (∃ a ∈ usesS (at_ s n), f ∈ useR (at_ s n) n (defN (at_ s n)).1 a) ↔ (∃ y ∈ usesS (at_ s n), f = fUse n y) ∨ ((at_ s n).kind = 6 ∧ ∃ y ∈ usesS (at_ s n), f = fSink n y) ∨ ((defN (at_ s n)).2 = true ∧ ((at_ s n).kind = 2 ∨ (at_ s n).kind = 3) ∧ ∃ y ∈ usesS (at_ s n), f = fFlow n (defN (at_ s n)).1 y) := by
    have hu : ∀ y, f ∈ useR (at_ s n) n (defN (at_ s n)).1 y ↔ f = fUse n y ∨ ((at_ s n).kind = 6 ∧ f = fSink n y) ∨ (((at_ s n).kind = 2 ∨ (at_ s n).kind = 3) ∧ f = fFlow n (defN (at_ s n)).1 y) := by
      intro y
      unfold useR flowR
      rw [List.mem_cons, List.mem_append]
      refine or_congr Iff.rfl (or_congr ?_ ?_)
      · split
        · rename_i h; simp [h]
        · rename_i h; simp [h]
      · split
        · rename_i h; rw [List.mem_singleton]; exact ⟨fun e => ⟨h, e⟩, fun e => e.2⟩
        · rename_i h; exact ⟨fun e => absurd e (by simp), fun e => absurd e.1 h⟩
    constructor
    · rintro ⟨y, hy, h⟩
      rcases (hu y).1 h with h | ⟨k, h⟩ | ⟨k, h⟩
      · exact .inl ⟨y, hy, h⟩
      · exact .inr (.inl ⟨k, y, hy, h⟩)
      · exact .inr (.inr ⟨hk _ (by omega), k, y, hy, h⟩)
    · rintro (⟨y, hy, h⟩ | ⟨k, y, hy, h⟩ | ⟨_, k, y, hy, h⟩)
      · exact ⟨y, hy, (hu y).2 (.inl h)⟩
      · exact ⟨y, hy, (hu y).2 (.inr (.inl ⟨k, h⟩))⟩
      · exact ⟨y, hy, (hu y).2 (.inr (.inr ⟨k, h⟩))⟩
  rw [hN, hD, hS, hU]
  constructor
  · rintro (h | h | h | h | h | h | h)
    · exact .inl h
    · exact .inr (.inl h)
    · exact .inr (.inr (.inr (.inr (.inl h))))
    · exact .inr (.inr (.inr (.inr (.inr (.inl h)))))
    · exact .inr (.inr (.inl h))
    · exact .inr (.inr (.inr (.inl h)))
    · exact .inr (.inr (.inr (.inr (.inr (.inr h)))))
  · rintro (h | h | h | h | h | h | h)
    · exact .inl h
    · exact .inr (.inl h)
    · exact .inr (.inr (.inr (.inr (.inl h))))
    · exact .inr (.inr (.inr (.inr (.inr (.inl h)))))
    · exact .inr (.inr (.inl h))
    · exact .inr (.inr (.inr (.inl h)))
    · exact .inr (.inr (.inr (.inr (.inr (.inr h)))))
def refL (s : List Stmt) (i d : Nat) : List Fact := (List.range' i d).flatMap fun m : Nat => refOne s (m : Int)
section
variable (s : List Stmt) (hs : s.length ≤ 60) (hB : ∀ st ∈ s, bWStmt st)
include hs hB
theorem refOne_fit {n : Nat} (hn : n < s.length) {f : Fact} (h : f ∈ refOne s n) : bareF f = true ∧ okF f ∧ f.args.length ≤ 1000 := by
  have h1 := (mem_refOne (by omega) (by omega)).1 h
  have h2 := oneL_ok h1
  exact ⟨h2.1, ok_facts hB (mem_factsL.2 ⟨n, by omega, by omega, h1⟩), by omega⟩
theorem r21_l0 : ∀ (d i : Nat) (acc : List Fact), i + d = s.length → acc.length ≤ 70 * i → (∀ f ∈ acc, bareF f = true ∧ okF f ∧ f.args.length ≤ 1000) → Ev (fun k => lambrequinref21_Of.l0 k s acc i) (dd (sortF (acc ++ refL s i d)))
  | 0, i, acc, h, ha, hb => by
    refine Ev.step (fun k => by rw [lambrequinref21_Of.l0]) ?_
    refine Ev.neg (by omega) ?_
    refine Ev.bind (rSort_ev acc (by omega) (fun f hf => (hb f hf).1) (fun f hf => (hb f hf).2.1) (fun f hf => (hb f hf).2.2)) ?_
    exact Ev.some (by simp [refL])
  | d + 1, i, acc, h, ha, hb => by
    refine Ev.step (fun k => by rw [lambrequinref21_Of.l0]) ?_
    refine Ev.pos (by omega) (Ev.pos (by omega) (Ev.pure rfl (Ev.pos (by omega) ?_)))
    have hl := refOne_len s (i : Int)
    have ih := r21_l0 d (i + 1) (acc ++ refOne s i) (by omega) (by rw [List.length_append]; omega) (fun f hf => by
      rcases List.mem_append.1 hf with hf | hf
      · exact hb f hf
      · exact refOne_fit s hs hB (by omega) hf)
    have e : acc ++ refOne s i ++ refL s (i + 1) d = acc ++ refL s i (d + 1) := by
      unfold refL
      rw [List.range'_succ, List.flatMap_cons, List.append_assoc]
    rw [e] at ih
    refine r21_l1 s (by omega) i (by omega) _ (at_ s i) s.length 0 (acc ++ [fNode i]) (by omega) (by simp; omega) ?_
    exact (congrArg (fun z => Ev (fun k => lambrequinref21_Of.l0 k s z ((i + 1 : Nat) : Int)) _) (by simp [refOne])).mpr ih
theorem r21_ev : Ev (fun k => lambrequinref21_Of.f k s) (ofF s) := by
  unfold lambrequinref21_Of.f
  refine Ev.iff (r21_l0 s hs hB s.length 0 [] (by omega) (by simp) (by simp)) ?_
  have hbare : bareL ([] ++ refL s 0 s.length) = true := by
    unfold bareL
    rw [List.all_eq_true, List.nil_append]
    intro f hf
    unfold refL at hf
    obtain ⟨m, hm, hf⟩ := List.mem_flatMap.1 hf
    have := List.mem_range'.1 hm
    exact (refOne_fit s hs hB (by omega) hf).1
  refine SF_ext (dd_strict (bareL_sort hbare) (sortF_pw _)) (ofF_strict s) fun x => ?_
  rw [mem_dd, sortF_mem, mem_ofF, mem_factsL, List.nil_append]
  unfold refL
  rw [List.mem_flatMap]
  constructor
  · rintro ⟨m, hm, hf⟩
    have := List.mem_range'.1 hm
    exact ⟨m, by omega, by omega, (mem_refOne (by omega) (by omega)).1 hf⟩
  · rintro ⟨m, h0, h1, hf⟩
    refine ⟨m.toNat, ?_, ?_⟩
    · rw [List.mem_range']
      exact ⟨m.toNat, by omega, by omega⟩
    · rw [show ((m.toNat : Nat) : Int) = m by omega]
      exact (mem_refOne h0 h1).2 hf
end
end Go.Proofs.YtoekfmdcplphmaaGreat.H

/- RowFactsMore of the seat's law FactsMore: the law holds, under the statement's own conditions. -/
import Derived.Test.YtoekfmdcplphmaaNXFactsMore
import Derived.Test.YtoekfmdcplphmaaNXFactsMore2
import Derived.Test.YtoekfmdcplphmaaNXFactsMore3
import Derived.OpenShut
import Derived.SizedLaws
import Derived.DataReads
import Derived.Test.YtoekfmdcplphmaaRows
import Derived.Test.YtoekfmdcplphmaaNW
import Derived.WalkKit
import Derived.ProofKit
import Derived.ShutString
import Derived.ChangeOld
import Derived.Below
import Derived.Carry
set_option linter.unusedVariables false
set_option linter.unusedSimpArgs false
set_option linter.unusedSectionVars false
namespace Go.Proofs.Ytoekfmdcplphmaa.H
open Go.RowKit Go.Proofs.YtoekfmdcplphmaaW.PrintWords Go.Proofs.YtoekfmdcplphmaaW.PrintLast Go.Proofs.YtoekfmdcplphmaaW.PrintMore
attribute [local go_sem] max2_int min2_int max_two min_two max_three min_three max_four min_four
mutual
def lambrequinlaw21_FactsMore.j0 : Nat → List (Stmt) → ByteArray → Bool → Bool → Option (Bool)
 | 0, _, _, _, _ => none
 | k + 1, x0, x1, x5, x29 => if x29 = true then (some x5) else (lambrequinlaw21_FactsMore.l0 k x0 x1 x5 0)
def lambrequinlaw21_FactsMore.l0 : Nat → List (Stmt) → ByteArray → Bool → Int → Option (Bool)
 | 0, _, _, _, _ => none
 | k + 1, x0, x1, x5, x6 => if x6 < (x0.length : Int) then (if 0 ≤ x6 then (if ((rd_T33 x0 x6).a) = (x0.length : Int) then (some x5) else (if ((rd_T33 x0 x6).b) = (x0.length : Int) then (some x5) else (lambrequinlaw21_FactsMore.l0 k x0 x1 x5 (wrap64 (x6 + 1))))) else (none)) else ((facts_Of.f k x0).bind fun t105 => ((some (([] : List (Stmt)) : List (Stmt))).bind fun y108 => (if y108.length + x0.length < 1466015503701 then ((some (y108 ++ x0 : List (Stmt))).bind fun y111 => (if y111.length < 1466015503701 then ((facts_Of.f k (y111 ++ [(⟨6, (⟨#[]⟩ : ByteArray), x1, (⟨#[]⟩ : ByteArray), (⟨#[]⟩ : ByteArray), 0, 0, 0⟩ : Stmt)])).bind fun t117 => ((lambrequinlaw21_num.f (x0.length : Int)).bind fun bt120 => (lambrequinlaw21_FactsMore.l1 k x1 x5 t105 t117 0 bt120.1 bt120.2.1 bt120.2.2))) else (none))) else (none))))
def lambrequinlaw21_FactsMore.l1 : Nat → ByteArray → Bool → List (Fact) → List (Fact) → Int → Bool → ByteArray → Int → Option (Bool)
 | 0, _, _, _, _, _, _, _, _ => none
 | k + 1, x1, x5, x7, x8, x10, x124000, x124001, x124002 => if x10 < (x7.length : Int) then (if 0 ≤ x10 then ((lambrequinref14_Has.f k x8 ((rd_T44 x7 x10).pred) ((rd_T44 x7 x10).args)).bind fun t126 => (if t126 = true then (lambrequinlaw21_FactsMore.l1 k x1 x5 x7 x8 (wrap64 (x10 + 1)) x124000 x124001 x124002) else (some false))) else (none)) else (if x5 = true then (if (x8.length : Int) = (wrap64 ((x7.length : Int) + 3)) then ((facts_Has.f x8 (⟨#[110, 111, 100, 101]⟩ : ByteArray) (([(⟨x124000, x124001, x124002⟩ : Val)] : List (Val)))).bind fun t130 => (if t130 = true then ((lambrequinlaw21_sym.f x1).bind fun bt131 => ((facts_Has.f x8 (⟨#[117, 115, 101]⟩ : ByteArray) (([(⟨x124000, x124001, x124002⟩ : Val), (⟨bt131.1, bt131.2.1, bt131.2.2⟩ : Val)] : List (Val)))).bind fun t137 => (if t137 = true then ((lambrequinlaw21_sym.f x1).bind fun bt138 => ((facts_Has.f x8 (⟨#[115, 105, 110, 107]⟩ : ByteArray) (([(⟨x124000, x124001, x124002⟩ : Val), (⟨bt138.1, bt138.2.1, bt138.2.2⟩ : Val)] : List (Val)))).bind fun t144 => (some t144))) else (some false)))) else (some false))) else (some false)) else (some false))
end
def lambrequinlaw21_FactsMore.f (k : Nat) (l0 : List (Stmt)) (a1 : ByteArray) : Option (Bool) := (lambrequinlaw21_shown.f k).bind fun t101 => (if (l0.length : Int) > 60 then (lambrequinlaw21_FactsMore.j0 k l0 a1 t101 true) else (if (l0.length : Int) = 0 then (lambrequinlaw21_FactsMore.j0 k l0 a1 t101 true) else (if 0 ≤ (wrap64 ((l0.length : Int) - 1)) then (if (wrap64 ((l0.length : Int) - 1)) < (l0.length : Int) then (lambrequinlaw21_FactsMore.j0 k l0 a1 t101 (((rd_T33 l0 (wrap64 ((l0.length : Int) - 1))).kind) != 9)) else (none)) else (none))))
theorem lambrequinlaw21_FactsMore.mono_l : ∀ k, (∀ y0 y1 y2 y3, LeO (lambrequinlaw21_FactsMore.j0 k y0 y1 y2 y3) (lambrequinlaw21_FactsMore.j0 (k + 1) y0 y1 y2 y3)) ∧ (∀ y0 y1 y2 y3, LeO (lambrequinlaw21_FactsMore.l0 k y0 y1 y2 y3) (lambrequinlaw21_FactsMore.l0 (k + 1) y0 y1 y2 y3)) ∧ (∀ y0 y1 y2 y3 y4 y5 y6 y7, LeO (lambrequinlaw21_FactsMore.l1 k y0 y1 y2 y3 y4 y5 y6 y7) (lambrequinlaw21_FactsMore.l1 (k + 1) y0 y1 y2 y3 y4 y5 y6 y7))
 | 0 => ⟨fun _ _ _ _ r h => by simp [lambrequinlaw21_FactsMore.j0] at h, fun _ _ _ _ r h => by simp [lambrequinlaw21_FactsMore.l0] at h, fun _ _ _ _ _ _ _ _ r h => by simp [lambrequinlaw21_FactsMore.l1] at h⟩
 | k + 1 => by
  obtain ⟨ih0, ih1, ih2⟩ := lambrequinlaw21_FactsMore.mono_l k
  refine ⟨?_, ?_, ?_⟩
  ·intro y0 y1 y2 y3
   unfold lambrequinlaw21_FactsMore.j0
   repeat' first
   | (with_reducible exact ih0 _ _ _ _)
   | (with_reducible exact ih1 _ _ _ _)
   | (with_reducible exact ih2 _ _ _ _ _ _ _ _)
   | (with_reducible exact facts_Of.mono _ _)
   | (with_reducible exact lambrequinlaw21_shown.mono _)
   | (with_reducible exact lambrequinref14_Has.mono _ _ _ _)
   | (with_reducible exact LeO.refl _)
   | (with_reducible exact LeO.none _)
   | (with_reducible refine LeO.ite ?_ ?_)
   | (with_reducible refine LeO.bind ?_ (fun _ => ?_))
   | exact ih0 _ _ _ _
   | exact ih1 _ _ _ _
   | exact ih2 _ _ _ _ _ _ _ _
   | exact facts_Of.mono _ _
   | exact lambrequinlaw21_shown.mono _
   | exact lambrequinref14_Has.mono _ _ _ _
   | exact LeO.none _
   | refine LeO.ite ?_ ?_
   | refine LeO.bind ?_ (fun _ => ?_)
  ·intro y0 y1 y2 y3
   unfold lambrequinlaw21_FactsMore.l0
   repeat' first
   | (with_reducible exact ih0 _ _ _ _)
   | (with_reducible exact ih1 _ _ _ _)
   | (with_reducible exact ih2 _ _ _ _ _ _ _ _)
   | (with_reducible exact facts_Of.mono _ _)
   | (with_reducible exact lambrequinlaw21_shown.mono _)
   | (with_reducible exact lambrequinref14_Has.mono _ _ _ _)
   | (with_reducible exact LeO.refl _)
   | (with_reducible exact LeO.none _)
   | (with_reducible refine LeO.ite ?_ ?_)
   | (with_reducible refine LeO.bind ?_ (fun _ => ?_))
   | exact ih0 _ _ _ _
   | exact ih1 _ _ _ _
   | exact ih2 _ _ _ _ _ _ _ _
   | exact facts_Of.mono _ _
   | exact lambrequinlaw21_shown.mono _
   | exact lambrequinref14_Has.mono _ _ _ _
   | exact LeO.none _
   | refine LeO.ite ?_ ?_
   | refine LeO.bind ?_ (fun _ => ?_)
  ·intro y0 y1 y2 y3 y4 y5 y6 y7
   unfold lambrequinlaw21_FactsMore.l1
   repeat' first
   | (with_reducible exact ih0 _ _ _ _)
   | (with_reducible exact ih1 _ _ _ _)
   | (with_reducible exact ih2 _ _ _ _ _ _ _ _)
   | (with_reducible exact facts_Of.mono _ _)
   | (with_reducible exact lambrequinlaw21_shown.mono _)
   | (with_reducible exact lambrequinref14_Has.mono _ _ _ _)
   | (with_reducible exact LeO.refl _)
   | (with_reducible exact LeO.none _)
   | (with_reducible refine LeO.ite ?_ ?_)
   | (with_reducible refine LeO.bind ?_ (fun _ => ?_))
   | exact ih0 _ _ _ _
   | exact ih1 _ _ _ _
   | exact ih2 _ _ _ _ _ _ _ _
   | exact facts_Of.mono _ _
   | exact lambrequinlaw21_shown.mono _
   | exact lambrequinref14_Has.mono _ _ _ _
   | exact LeO.none _
   | refine LeO.ite ?_ ?_
   | refine LeO.bind ?_ (fun _ => ?_)
theorem lambrequinlaw21_FactsMore.mono : ∀ a0 a1 k, LeO (lambrequinlaw21_FactsMore.f k a0 a1) (lambrequinlaw21_FactsMore.f (k + 1) a0 a1) := by
 intro a0 a1 k
 obtain ⟨ih0, ih1, ih2⟩ := lambrequinlaw21_FactsMore.mono_l k
 unfold lambrequinlaw21_FactsMore.f
 repeat' first
   | (with_reducible exact ih0 _ _ _ _)
   | (with_reducible exact ih1 _ _ _ _)
   | (with_reducible exact ih2 _ _ _ _ _ _ _ _)
   | (with_reducible exact facts_Of.mono _ _)
   | (with_reducible exact lambrequinlaw21_shown.mono _)
   | (with_reducible exact lambrequinref14_Has.mono _ _ _ _)
   | (with_reducible exact LeO.refl _)
   | (with_reducible exact LeO.none _)
   | (with_reducible refine LeO.ite ?_ ?_)
   | (with_reducible refine LeO.bind ?_ (fun _ => ?_))
   | exact ih0 _ _ _ _
   | exact ih1 _ _ _ _
   | exact ih2 _ _ _ _ _ _ _ _
   | exact facts_Of.mono _ _
   | exact lambrequinlaw21_shown.mono _
   | exact lambrequinref14_Has.mono _ _ _ _
   | exact LeO.none _
   | refine LeO.ite ?_ ?_
   | refine LeO.bind ?_ (fun _ => ?_)
def lambrequinlaw21_FactsMore.T15 : Bool × List (List Nat × List Nat) := (true, [([], []), ([], []), ([], []), ([1, 2], [1, 2]), ([3], [3]), ([4], [4]), ([], []), ([], []), ([6, 7], [6, 7]), ([8], [8]), ([9], [9]), ([0, 5, 10], [0, 5, 10]), ([11], [11])])
def lambrequinlaw21_FactsMore.B15 : List Nat := [0, 0, 0, 6, 14, 30, 0, 0, 192, 448, 960, 2047, 4095]
theorem lambrequinlaw21_FactsMore.tab15 : rtab .any (opsOf Try.f6 15) = lambrequinlaw21_FactsMore.T15 := by kernel_rfl
theorem lambrequinlaw21_FactsMore.bits15 : waitsOk lambrequinlaw21_FactsMore.T15.2 lambrequinlaw21_FactsMore.B15 = true := by kernel_rfl
def lambrequinlaw21_FactsMore.T17 : Bool × List (List Nat × List Nat) := (true, [([], []), ([0], [0]), ([1], [1]), ([2, 1], [1, 2]), ([1], [1]), ([4, 1], [1, 4]), ([5, 1], [1, 5]), ([3, 6, 1], [1, 3, 6]), ([1, 7], [1, 7]), ([8, 1], [8]), ([9], [9]), ([9], [9]), ([11, 9], [9, 11]), ([10, 12, 9, 9], [9, 10, 12]), ([9, 13], [9, 13]), ([14, 13], [14]), ([15], [15]), ([15], [15]), ([15], [15]), ([18, 15, 15], [15, 18]), ([17, 19, 15], [15, 17, 19]), ([16, 20, 19, 15], [15, 16, 20]), ([15, 21], [15, 21]), ([22, 21], [22]), ([23], [23]), ([23], [23]), ([23], [23]), ([26, 23, 23], [23, 26]), ([25, 27, 23], [23, 25, 27]), ([24, 28, 27, 23], [23, 24, 28]), ([23, 29], [23, 29]), ([30, 29, 0, 1, 2, 3, 4, 5, 6, 7, 8, 9, 10, 11, 12, 13, 14, 15, 16, 17, 18, 19, 20, 21, 22, 23, 24, 25, 26, 27, 28, 29, 30], [30])])
def lambrequinlaw21_FactsMore.B17 : List Nat := [0, 1, 3, 7, 3, 19, 51, 127, 255, 511, 1023, 1023, 3071, 8191, 16383, 32767, 65535, 65535, 65535, 327679, 983039, 2097151, 4194303, 8388607, 16777215, 16777215, 16777215, 83886079, 251658239, 536870911, 1073741823, 2147483647]
theorem lambrequinlaw21_FactsMore.tab17 : rtab .any (opsOf Try.f6 17) = lambrequinlaw21_FactsMore.T17 := by kernel_rfl
theorem lambrequinlaw21_FactsMore.bits17 : waitsOk lambrequinlaw21_FactsMore.T17.2 lambrequinlaw21_FactsMore.B17 = true := by kernel_rfl
set_option maxHeartbeats 8000000 in
set_option maxRecDepth 100000 in
theorem lambrequinlaw21_FactsMore.calls (k : Nat) (A0 : Option Addr) (c0 : Nat) (l0 : List (Stmt)) (a1 : ByteArray) (r : Bool) (w : World) (hr0 : Kd.C k33 w A0 l0.length l0) (hc0 : l0.length ≤ c0) (h : lambrequinlaw21_FactsMore.f k l0 a1 = some r) :
  Calls Try.prog 6 #[.slice A0 l0.length c0, .string a1] w fun e w' => e = .returned (.bool r) ∧ Below w.heap.size w w' := by
 have hu33 := Try.underlying33
 have hu28 := Try.underlying28
 have HR0 := am hr0
 have HC0 := am hc0
 clear hr0 hc0
 have HB := am (Below.refl w.heap.size w)
 have H : ((lambrequinlaw21_shown.f k).bind fun t101 => (if (l0.length : Int) > 60 then (lambrequinlaw21_FactsMore.j0 k l0 a1 t101 true) else (if (l0.length : Int) = 0 then (lambrequinlaw21_FactsMore.j0 k l0 a1 t101 true) else (if 0 ≤ (wrap64 ((l0.length : Int) - 1)) then (if (wrap64 ((l0.length : Int) - 1)) < (l0.length : Int) then (lambrequinlaw21_FactsMore.j0 k l0 a1 t101 (((rd_T33 l0 (wrap64 ((l0.length : Int) - 1))).kind) != 9)) else (none)) else (none))))) = some r := h
 clear h
 replace H := Option.bind_eq_some_iff.mp H
 obtain ⟨t101, A30, H⟩ := H
 replace H : (if (l0.length : Int) > 60 then (lambrequinlaw21_FactsMore.j0 k l0 a1 t101 true) else (if (l0.length : Int) = 0 then (lambrequinlaw21_FactsMore.j0 k l0 a1 t101 true) else (if 0 ≤ (wrap64 ((l0.length : Int) - 1)) then (if (wrap64 ((l0.length : Int) - 1)) < (l0.length : Int) then (lambrequinlaw21_FactsMore.j0 k l0 a1 t101 (((rd_T33 l0 (wrap64 ((l0.length : Int) - 1))).kind) != 9)) else (none)) else (none)))) = some r := H
 have A3 := am A30
 clear A30
 have HC4 := am H
 clear H
 go_enter Try.func6, Try.ntmps6
 go_upto_region 2 with (first | ((with_reducible refine gate_callee (f := 7) rfl ?_); refine goesL_ (some 11) rfl rfl Try.func7 (by kernel_rfl) rfl #[] rfl (by (try simp only [List.map_toArray, List.map_cons, List.map_nil]); first | done | rfl | (simp only [List.length_drop, List.length_take]; rfl)) ?_; (with_reducible refine (lambrequinlaw21_shown.calls k  t101 _ A3.out).mono ?_); rintro e w5 ⟨rfl, hb⟩; refine ⟨_, rfl, ?_⟩; replace HB := am (bs_ HB.out hb); (try clear hb); (try clear hb2); (try clear hk); (try clear hi)))
 (try simp only [Act.put, List.setIfInBounds_toArray, List.set_cons_zero, List.set_cons_succ])
 go_cut [29] (fun v29 wc => ∃ (kq : Nat) (x29_3 : Bool), v29 = .bool x29_3 ∧ Aside0 (lambrequinlaw21_FactsMore.j0 kq l0 a1 t101 x29_3 = some r) ∧ Aside0 (kq ≤ k) ∧ Aside0 (Below w.heap.size w wc))
 case first =>
  have H := HC4.out
  clear HC4
  by_cases c6 : (l0.length : Int) > 60
  ·rw [if_pos c6] at H
   have c6b0 : decide (60 < (l0.length : Int)) = true := decide_eq_true c6
   have c6b1 : decide (60 < l0.length) = true := decide_eq_true (by omega)
   clear c6
   (first | rw [c6b0] | (simp only [i64_w, i32_w]; rw [c6b0]) | skip)
   have H' := am H
   clear H
   go_wp2
   go_meet
   case rel => exact ⟨_, (true), rs_, H', ⟨by first | omega | exact Nat.le_refl _⟩, ⟨pL HB.out⟩⟩
  ·rw [if_neg c6] at H
   have c6b0 : decide (60 < (l0.length : Int)) = false := decide_eq_false c6
   have c6b1 : decide (60 < l0.length) = false := decide_eq_false (by omega)
   clear c6
   (first | rw [c6b0] | (simp only [i64_w, i32_w]; rw [c6b0]) | skip)
   by_cases c7 : (l0.length : Int) = 0
   ·rw [if_pos c7] at H
    have c7b0 : ((l0.length : Int) == 0) = true := beq_iff_eq.mpr c7
    have c7b1 : ((l0.length : Int) != 0) = false := bne_eq_false_iff_eq.mpr c7
    clear c7
    have H' := am H
    clear H
    go_wp2
    go_meet
    case rel => exact ⟨_, (true), rs_, H', ⟨by first | omega | exact Nat.le_refl _⟩, ⟨pL HB.out⟩⟩
   ·rw [if_neg c7] at H
    have c7b0 : ((l0.length : Int) == 0) = false := beq_eq_false_iff_ne.mpr c7
    have c7b1 : ((l0.length : Int) != 0) = true := bne_iff_ne.mpr c7
    have c7b2 : ¬ (l0 = []) := fun h_ => c7 (by rw [h_]; rfl)
    obtain ⟨ji8, hji8⟩ : ∃ j_ : Int, (wrap64 ((l0.length : Int) - 1)) = j_ := ⟨_, rfl⟩
    replace H : (if 0 ≤ (ji8) then (if (ji8) < (l0.length : Int) then (lambrequinlaw21_FactsMore.j0 k l0 a1 t101 (((rd_T33 l0 (ji8)).kind) != 9)) else (none)) else (none)) = some r := by first | (rw [hji8] at H; exact H) | (simp only [hji8] at H ⊢; exact H)
    have hji8w : (IntKind.i64.wrap ((l0.length : Int) - 1)) = ji8 := (i64_w _).trans hji8
    by_cases c9 : 0 ≤ (ji8)
    ·rw [if_pos c9] at H
     have c9b0 : decide (0 ≤ (ji8)) = true := decide_eq_true c9
     clear c9
     by_cases c10 : (ji8) < (l0.length : Int)
     ·rw [if_pos c10] at H
      have c10b0 : decide ((ji8) < (l0.length : Int)) = true := decide_eq_true c10
      clear c10
      have H' := am H
      clear H
      have p102 : 0 ≤ ((ji8) : Int) := dt_
      have q102 : (ji8) < (l0.length : Int) := dt_
      obtain ⟨ad102, e102, hx102_0, hx102_1, hx102_2, hx102_3, hx102_4, hx102_5, hx102_6, hx102_7⟩ := at_T33 HR0.out (ji8) p102 q102
      cases e102
      replace hx102_0 := up_ HB.out hx102_0
      replace hx102_1 := up_ HB.out hx102_1
      replace hx102_2 := up_ HB.out hx102_2
      replace hx102_3 := up_ HB.out hx102_3
      replace hx102_4 := up_ HB.out hx102_4
      replace hx102_5 := up_ HB.out hx102_5
      replace hx102_6 := up_ HB.out hx102_6
      replace hx102_7 := up_ HB.out hx102_7
      replace p102 := eq_true p102
      replace q102 := eq_true q102
      go_wp2
      go_meet
      case rel => exact ⟨_, ((((rd_T33 l0 (ji8)).kind) != 9)), (by first | rfl | (simp; done) | (simp only [← hji8] <;> (first | rfl | simp)) | (simp [*]; done)), H', ⟨by first | omega | exact Nat.le_refl _⟩, ⟨pL HB.out⟩⟩
     ·rw [if_neg c10] at H
      exact absurd H (by simp)
    ·rw [if_neg c9] at H
     exact absurd H (by simp)
 case rest =>
  clear HC4
  try clear c1
  try clear p1
  try clear q1
  try clear hx1
  try clear p2
  try clear c6
  try clear c6b0
  try clear c6b1
  try clear p6
  try clear c7
  try clear c7b0
  try clear c7b1
  try clear c7b2
  try clear c9
  try clear c9b0
  try clear c10
  try clear c10b0
  try clear p10
  try clear q10
  try clear hx10
  try clear hx102_0
  try clear hx102_1
  try clear hx102_2
  try clear hx102_3
  try clear hx102_4
  try clear hx102_5
  try clear hx102_6
  try clear hx102_7
  try clear p102
  try clear q102
  obtain ⟨kq, x29_3, rfl, HA, HJ3, HB⟩ := hcut
  cases kq with
  | zero => exact absurd HA.out (by simp [lambrequinlaw21_FactsMore.j0])
  | succ kj3 =>
   have H := HA.out
   clear HA
   simp only [lambrequinlaw21_FactsMore.j0] at H
   by_cases c11 : x29_3 = true
   ·subst c11
    have H1 : (some t101) = some r := by rw [if_pos rfl] at H; exact H
    clear H
    have H := H1
    clear H1
    obtain rfl := Option.some.inj H
    go_wp2
    go_ret
    exact ⟨by first | rfl | (simp [errW_none, errW_some] <;> rfl) | (simp [*, errW_none, errW_some] <;> rfl), pL HB.out⟩
   ·replace c11 := Bool.eq_false_iff.mpr c11
    subst c11
    have H1 : (lambrequinlaw21_FactsMore.l0 kj3 l0 a1 t101 0) = some r := by rw [if_neg (show ¬ (false = true) by decide)] at H; exact H
    clear H
    have H := H1
    clear H1
    have H' := am H
    clear H
    go_wp2
    go_loopg [6] kj3 (fun kq v6 w' => ∃ (x6_2 : Int), v6 = .int .i64 x6_2 ∧ Aside0 (lambrequinlaw21_FactsMore.l0 kq l0 a1 t101 x6_2 = some r) ∧ Aside0 (kq ≤ kj3) ∧ Aside0 (Below w.heap.size w w'))
    case atStart => exact ⟨(0), rs_, H', ⟨Nat.le_refl _⟩, ⟨pL HB.out⟩⟩
    case round =>
     clear H'
     try clear c1
     try clear p1
     try clear q1
     try clear hx1
     try clear p2
     try clear c6
     try clear c6b0
     try clear c6b1
     try clear p6
     try clear c7
     try clear c7b0
     try clear c7b1
     try clear c7b2
     try clear c9
     try clear c9b0
     try clear c10
     try clear c10b0
     try clear p10
     try clear q10
     try clear hx10
     try clear c11
     try clear hx102_0
     try clear hx102_1
     try clear hx102_2
     try clear hx102_3
     try clear hx102_4
     try clear hx102_5
     try clear hx102_6
     try clear hx102_7
     try clear p1
     try clear p10
     try clear p102
     try clear p2
     try clear p6
     try clear q1
     try clear q10
     try clear q102
     obtain ⟨x6_2, rfl, HA, HK2, HB⟩ := hrel
     cases gk with
     | zero => exact absurd HA.out (by simp [lambrequinlaw21_FactsMore.l0])
     | succ k2 =>
      have H := HA.out
      clear HA
      simp only [lambrequinlaw21_FactsMore.l0] at H
      by_cases c12 : x6_2 < (l0.length : Int)
      ·rw [if_pos c12] at H
       have c12b0 : decide (x6_2 < (l0.length : Int)) = true := decide_eq_true c12
       clear c12
       by_cases c13 : 0 ≤ x6_2
       ·rw [if_pos c13] at H
        have c13b0 : decide (0 ≤ x6_2) = true := decide_eq_true c13
        clear c13
        by_cases c14 : ((rd_T33 l0 x6_2).a) = (l0.length : Int)
        ·rw [if_pos c14] at H
         have c14b0 : (((rd_T33 l0 x6_2).a) == (l0.length : Int)) = true := beq_iff_eq.mpr c14
         have c14b1 : (((rd_T33 l0 x6_2).a) != (l0.length : Int)) = false := bne_eq_false_iff_eq.mpr c14
         clear c14
         obtain rfl := Option.some.inj H
         have p103 : 0 ≤ (x6_2 : Int) := dt_
         have q103 : x6_2 < (l0.length : Int) := dt_
         obtain ⟨ad103, e103, hx103_0, hx103_1, hx103_2, hx103_3, hx103_4, hx103_5, hx103_6, hx103_7⟩ := at_T33 HR0.out x6_2 p103 q103
         cases e103
         replace hx103_0 := up_ HB.out hx103_0
         replace hx103_1 := up_ HB.out hx103_1
         replace hx103_2 := up_ HB.out hx103_2
         replace hx103_3 := up_ HB.out hx103_3
         replace hx103_4 := up_ HB.out hx103_4
         replace hx103_5 := up_ HB.out hx103_5
         replace hx103_6 := up_ HB.out hx103_6
         replace hx103_7 := up_ HB.out hx103_7
         replace p103 := eq_true p103
         replace q103 := eq_true q103
         go_wp2
         go_ret
         exact ⟨by first | rfl | (simp [errW_none, errW_some] <;> rfl) | (simp [*, errW_none, errW_some] <;> rfl), pL HB.out⟩
        ·rw [if_neg c14] at H
         have c14b0 : (((rd_T33 l0 x6_2).a) == (l0.length : Int)) = false := beq_eq_false_iff_ne.mpr c14
         have c14b1 : (((rd_T33 l0 x6_2).a) != (l0.length : Int)) = true := bne_iff_ne.mpr c14
         by_cases c15 : ((rd_T33 l0 x6_2).b) = (l0.length : Int)
         ·rw [if_pos c15] at H
          have c15b0 : (((rd_T33 l0 x6_2).b) == (l0.length : Int)) = true := beq_iff_eq.mpr c15
          have c15b1 : (((rd_T33 l0 x6_2).b) != (l0.length : Int)) = false := bne_eq_false_iff_eq.mpr c15
          clear c15
          obtain rfl := Option.some.inj H
          have p103 : 0 ≤ (x6_2 : Int) := dt_
          have q103 : x6_2 < (l0.length : Int) := dt_
          obtain ⟨ad103, e103, hx103_0, hx103_1, hx103_2, hx103_3, hx103_4, hx103_5, hx103_6, hx103_7⟩ := at_T33 HR0.out x6_2 p103 q103
          cases e103
          replace hx103_0 := up_ HB.out hx103_0
          replace hx103_1 := up_ HB.out hx103_1
          replace hx103_2 := up_ HB.out hx103_2
          replace hx103_3 := up_ HB.out hx103_3
          replace hx103_4 := up_ HB.out hx103_4
          replace hx103_5 := up_ HB.out hx103_5
          replace hx103_6 := up_ HB.out hx103_6
          replace hx103_7 := up_ HB.out hx103_7
          replace p103 := eq_true p103
          replace q103 := eq_true q103
          have p104 : 0 ≤ (x6_2 : Int) := dt_
          have q104 : x6_2 < (l0.length : Int) := dt_
          obtain ⟨ad104, e104, hx104_0, hx104_1, hx104_2, hx104_3, hx104_4, hx104_5, hx104_6, hx104_7⟩ := at_T33 HR0.out x6_2 p104 q104
          obtain rfl : ad103 = ad104 := (by injection e104)
          replace hx104_0 := up_ HB.out hx104_0
          replace hx104_1 := up_ HB.out hx104_1
          replace hx104_2 := up_ HB.out hx104_2
          replace hx104_3 := up_ HB.out hx104_3
          replace hx104_4 := up_ HB.out hx104_4
          replace hx104_5 := up_ HB.out hx104_5
          replace hx104_6 := up_ HB.out hx104_6
          replace hx104_7 := up_ HB.out hx104_7
          replace p104 := eq_true p104
          replace q104 := eq_true q104
          go_wp2
          go_ret
          exact ⟨by first | rfl | (simp [errW_none, errW_some] <;> rfl) | (simp [*, errW_none, errW_some] <;> rfl), pL HB.out⟩
         ·rw [if_neg c15] at H
          have c15b0 : (((rd_T33 l0 x6_2).b) == (l0.length : Int)) = false := beq_eq_false_iff_ne.mpr c15
          have c15b1 : (((rd_T33 l0 x6_2).b) != (l0.length : Int)) = true := bne_iff_ne.mpr c15
          have H' := am H
          clear H
          have p103 : 0 ≤ (x6_2 : Int) := dt_
          have q103 : x6_2 < (l0.length : Int) := dt_
          obtain ⟨ad103, e103, hx103_0, hx103_1, hx103_2, hx103_3, hx103_4, hx103_5, hx103_6, hx103_7⟩ := at_T33 HR0.out x6_2 p103 q103
          cases e103
          replace hx103_0 := up_ HB.out hx103_0
          replace hx103_1 := up_ HB.out hx103_1
          replace hx103_2 := up_ HB.out hx103_2
          replace hx103_3 := up_ HB.out hx103_3
          replace hx103_4 := up_ HB.out hx103_4
          replace hx103_5 := up_ HB.out hx103_5
          replace hx103_6 := up_ HB.out hx103_6
          replace hx103_7 := up_ HB.out hx103_7
          replace p103 := eq_true p103
          replace q103 := eq_true q103
          have p104 : 0 ≤ (x6_2 : Int) := dt_
          have q104 : x6_2 < (l0.length : Int) := dt_
          obtain ⟨ad104, e104, hx104_0, hx104_1, hx104_2, hx104_3, hx104_4, hx104_5, hx104_6, hx104_7⟩ := at_T33 HR0.out x6_2 p104 q104
          obtain rfl : ad103 = ad104 := (by injection e104)
          replace hx104_0 := up_ HB.out hx104_0
          replace hx104_1 := up_ HB.out hx104_1
          replace hx104_2 := up_ HB.out hx104_2
          replace hx104_3 := up_ HB.out hx104_3
          replace hx104_4 := up_ HB.out hx104_4
          replace hx104_5 := up_ HB.out hx104_5
          replace hx104_6 := up_ HB.out hx104_6
          replace hx104_7 := up_ HB.out hx104_7
          replace p104 := eq_true p104
          replace q104 := eq_true q104
          go_wp2
          go_roundg k2
          case measure => have := HJ3.out; have := HK2.out; omega
          case rel => exact ⟨(wrap64 (x6_2 + 1)), rs_, H', ⟨by have := HJ3.out; have := HK2.out; omega⟩, ⟨pL HB.out⟩⟩
       ·rw [if_neg c13] at H
        exact absurd H (by simp)
      ·rw [if_neg c12] at H
       have c12b0 : decide (x6_2 < (l0.length : Int)) = false := decide_eq_false c12
       clear c12
       replace H := Option.bind_eq_some_iff.mp H
       obtain ⟨t105, A160, H⟩ := H
       replace H : ((some (([] : List (Stmt)) : List (Stmt))).bind fun y108 => (if y108.length + l0.length < 1466015503701 then ((some (y108 ++ l0 : List (Stmt))).bind fun y111 => (if y111.length < 1466015503701 then ((facts_Of.f k2 (y111 ++ [(⟨6, (⟨#[]⟩ : ByteArray), a1, (⟨#[]⟩ : ByteArray), (⟨#[]⟩ : ByteArray), 0, 0, 0⟩ : Stmt)])).bind fun t117 => ((lambrequinlaw21_num.f (l0.length : Int)).bind fun bt120 => (lambrequinlaw21_FactsMore.l1 k2 a1 t101 t105 t117 0 bt120.1 bt120.2.1 bt120.2.2))) else (none))) else (none))) = some r := H
       have A16 := am A160
       clear A160
       obtain ⟨y108, hy108⟩ : ∃ y_ : List (Stmt), y_ = (([] : List (Stmt))) := ⟨_, rfl⟩
       replace H : (if y108.length + l0.length < 1466015503701 then ((some (y108 ++ l0 : List (Stmt))).bind fun y111 => (if y111.length < 1466015503701 then ((facts_Of.f k2 (y111 ++ [(⟨6, (⟨#[]⟩ : ByteArray), a1, (⟨#[]⟩ : ByteArray), (⟨#[]⟩ : ByteArray), 0, 0, 0⟩ : Stmt)])).bind fun t117 => ((lambrequinlaw21_num.f (l0.length : Int)).bind fun bt120 => (lambrequinlaw21_FactsMore.l1 k2 a1 t101 t105 t117 0 bt120.1 bt120.2.1 bt120.2.2))) else (none))) else (none)) = some r := by first | (rw [hy108]; with_reducible exact H) | (have H2_ := (Option.bind_some _ _).symm.trans H; rw [hy108]; with_reducible exact H2_) | (have H2_ := (Option.bind_some _ _).symm.trans H; with_reducible exact H2_) | with_reducible exact H | (rw [hy108]; exact H) | exact H
       have Ny108 := am hy108
       clear hy108
       by_cases c17 : y108.length + l0.length < 1466015503701
       ·rw [if_pos c17] at H
        have LMc17 := am c17
        clear c17
        obtain ⟨y111, hy111⟩ : ∃ y_ : List (Stmt), y_ = (y108 ++ l0) := ⟨_, rfl⟩
        replace H : (if y111.length < 1466015503701 then ((facts_Of.f k2 (y111 ++ [(⟨6, (⟨#[]⟩ : ByteArray), a1, (⟨#[]⟩ : ByteArray), (⟨#[]⟩ : ByteArray), 0, 0, 0⟩ : Stmt)])).bind fun t117 => ((lambrequinlaw21_num.f (l0.length : Int)).bind fun bt120 => (lambrequinlaw21_FactsMore.l1 k2 a1 t101 t105 t117 0 bt120.1 bt120.2.1 bt120.2.2))) else (none)) = some r := by first | (rw [hy111]; with_reducible exact H) | (have H2_ := (Option.bind_some _ _).symm.trans H; rw [hy111]; with_reducible exact H2_) | (have H2_ := (Option.bind_some _ _).symm.trans H; with_reducible exact H2_) | with_reducible exact H | (rw [hy111]; exact H) | exact H
        have Ny111 := am hy111
        clear hy111
        by_cases c18 : y111.length < 1466015503701
        ·rw [if_pos c18] at H
         have LMc18 := am c18
         clear c18
         obtain ⟨y114, hy114⟩ : ∃ y_ : List (Stmt), y_ = (y111 ++ [(⟨6, (⟨#[]⟩ : ByteArray), a1, (⟨#[]⟩ : ByteArray), (⟨#[]⟩ : ByteArray), 0, 0, 0⟩ : Stmt)]) := ⟨_, rfl⟩
         replace H : ((facts_Of.f k2 y114).bind fun t117 => ((lambrequinlaw21_num.f (l0.length : Int)).bind fun bt120 => (lambrequinlaw21_FactsMore.l1 k2 a1 t101 t105 t117 0 bt120.1 bt120.2.1 bt120.2.2))) = some r := by first | (rw [hy114]; with_reducible exact H) | (have H2_ := (Option.bind_some _ _).symm.trans H; rw [hy114]; with_reducible exact H2_) | (have H2_ := (Option.bind_some _ _).symm.trans H; with_reducible exact H2_) | with_reducible exact H | (rw [hy114]; exact H) | exact H
         have Ny114 := am hy114
         clear hy114
         replace H := Option.bind_eq_some_iff.mp H
         obtain ⟨t117, A190, H⟩ := H
         replace H : ((lambrequinlaw21_num.f (l0.length : Int)).bind fun bt120 => (lambrequinlaw21_FactsMore.l1 k2 a1 t101 t105 t117 0 bt120.1 bt120.2.1 bt120.2.2)) = some r := H
         have A19 := am A190
         clear A190
         replace H := Option.bind_eq_some_iff.mp H
         obtain ⟨⟨t120, t121, t122⟩, A200, H⟩ := H
         replace H : (lambrequinlaw21_FactsMore.l1 k2 a1 t101 t105 t117 0 t120 t121 t122) = some r := H
         have A20 := am A200
         clear A200
         have H' := am H
         clear H
         go_wp2_with (first | ((with_reducible refine gate_callee (f := 8) rfl ?_); refine goesL_ (some 57) rfl rfl Try.func8 (by kernel_rfl) rfl #[.slice A0 l0.length c0] rfl (by (try simp only [List.map_toArray, List.map_cons, List.map_nil]); first | done | rfl | (simp only [List.length_drop, List.length_take]; rfl)) ?_; (with_reducible refine (facts_Of.calls k2 _ _ l0 t105 _ ?side1 ?side2 A16.out).mono ?_); (case side1 => repeat (first | exact (Kd.C_below HR0.out HB.out) | (with_reducible refine Kd.C_alloc ?_ _) | (with_reducible refine Kd.C_drewN ?_ _) | (with_reducible refine Kd.C_drew ?_))); (case side2 => exact HC0.out); rintro e w21 ⟨v106, rfl, ho0, hb⟩; refine ⟨_, rfl, ?_⟩; have HO107 := am (Kd.N_lower (Kd.N_mono (ok' := fun k_ => True) ho0 (fun k_ hk_ => trivial)) (below_size (pL HB.out))); replace HB := am (bs_ HB.out hb); (try clear hb); (try clear hb2); (try clear hk); (try clear hi); (try clear ho0)) | ((with_reducible refine gate_dst (N := 58) rfl ?_); (try (refine gate_guard (by rfl) ?_; dsimp only)); refine Kd.R_lit k33 _ 33 ?hg (N := 58) ?hd (xs := ([] : List (Stmt))) (inner := []) (ok := fun _ => True) (okp := fun _ => True) ?hr ?hp (fun _ hk => hk) trivial (Below.refl _ _) (Nat.le_refl _) (by simp) ?_; (case hd => rfl); (case hg => rfl); (case hr => first | (go_simp; done) | (go_simp; rfl)); (case hp => exact (Reps.none _ _)); intro v109 w22 ho23 hb hg_ hnew_; clear hg_ hnew_; (first | rw [← Ny108.out] at ho23 | (simp only [Int.reduceToNat] at ho23; rw [← Ny108.out] at ho23)); replace HO107 := am (Kd.N_elder' (by (with_reducible repeat (first | apply Kd.N_alloc | apply Kd.N_drewN | apply Kd.N_drew)); exact HO107.out) (Kd.R_base ho23) hb); have HO110 := am (Kd.R_lower ho23 (below_size (pL HB.out))); replace HB := am (bs_ HB.out hb); clear hb ho23) | ((with_reducible refine gate_builtin (b := .append) (xs := #[.tmp 58, .tmp 59]) rfl ?_); (try (refine gate_guard (by rfl) ?_; dsimp only)); at_builtin; refine Kd.R_append_rows k33 (w0 := w) w.heap.size rfl (.tmp 58) (.tmp 59) 22 33 (.agg #[(.int .i64 0), (.string ⟨#[]⟩), (.string ⟨#[]⟩), (.string ⟨#[]⟩), (.string ⟨#[]⟩), (.int .i64 0), (.int .i64 0), (.int .i64 0)]) 96 rfl Try.underlying22 info33 rfl (by decide) (by omega) v109 y108 l0 _ _ _ (fun _ => True) (fun _ => False) rfl rfl ?aO ?aR (fun _ _ h => h) (fun _ h => h.elim) ?aF ?aB ?aS ?aL ?_; (case aR => repeat (first | exact (Kd.C_below HR0.out HB.out) | (with_reducible refine Kd.C_alloc ?_ _) | (with_reducible refine Kd.C_drewN ?_ _) | (with_reducible refine Kd.C_drew ?_))); (case aB => exact (pL HB.out)); (case aF => exact (fun _ _ => trivial)); (case aO => exact (pR HO110.out)); (case aS => exact (below_size (pL HB.out))); (case aL => have := LMc17.out; omega); intro v112 w24 ho hb hg hat; rw [← Ny111.out] at ho; replace HO107 := am (Kd.N_afterv (ok := (fun _ => True)) (by (with_reducible repeat (first | apply Kd.N_alloc | apply Kd.N_drewN | apply Kd.N_drew)); exact HO107.out) hg hat); replace HB := am (hb); have HO113 := am (ho); clear HO110; clear ho hb hg hat) | ((with_reducible refine gate_builtin (b := .append) (xs := #[.tmp 60, .tmp 63]) rfl ?_); (try (refine gate_guard (by rfl) ?_; dsimp only)); at_builtin; refine Kd.R_append k33 (w0 := w) w.heap.size rfl (.tmp 60) (.tmp 63) 22 33 (.agg #[(.int .i64 0), (.string ⟨#[]⟩), (.string ⟨#[]⟩), (.string ⟨#[]⟩), (.string ⟨#[]⟩), (.int .i64 0), (.int .i64 0), (.int .i64 0)]) 96 rfl Try.underlying22 info33 rfl (by decide) (by omega) v112 y111 (⟨6, (⟨#[]⟩ : ByteArray), a1, (⟨#[]⟩ : ByteArray), (⟨#[]⟩ : ByteArray), 0, 0, 0⟩ : Stmt) [.int .i64 6, .string (⟨#[]⟩ : ByteArray), .string a1, .string (⟨#[]⟩ : ByteArray), .string (⟨#[]⟩ : ByteArray), .int .i64 0, .int .i64 0, .int .i64 0] (fun _ => True) (fun _ => False) rfl rfl ?aP (fun _ hk => hk.elim) ?aF ?aO ?aB ?aS ?aL ?_; (case aP => exact k33_mkM _ _ _ (⟨6, (⟨#[]⟩ : ByteArray), a1, (⟨#[]⟩ : ByteArray), (⟨#[]⟩ : ByteArray), 0, 0, 0⟩ : Stmt)); (case aB => exact (pL HB.out)); (case aF => exact (fun _ _ => trivial)); (case aO => exact (pR HO113.out)); (case aS => exact (below_size (pL HB.out))); (case aL => have := LMc18.out; omega); intro v115 w25 ho hb hg hat; rw [← Ny114.out] at ho; replace HO107 := am (Kd.N_afterv (ok := (fun _ => True)) (by (with_reducible repeat (first | apply Kd.N_alloc | apply Kd.N_drewN | apply Kd.N_drew)); exact HO107.out) hg hat); replace HB := am (hb); have HO116 := am (ho); clear HO113; clear ho hb hg hat; obtain ⟨Ao26, co26, eo26⟩ := Kd.R_slice HO116.out; subst eo26) | ((with_reducible refine gate_callee (f := 8) rfl ?_); refine goesL_ (some 65) rfl rfl Try.func8 (by kernel_rfl) rfl #[.slice Ao26 y114.length co26] rfl (by (try simp only [List.map_toArray, List.map_cons, List.map_nil]); first | done | rfl | (simp only [List.length_drop, List.length_take]; rfl)) ?_; (with_reducible refine (facts_Of.calls k2 _ _ y114 t117 _ ?side1 ?side2 A19.out).mono ?_); (case side1 => repeat (first | exact (Kd.R_reads' HO116.out).2.2 | (with_reducible refine Kd.C_alloc ?_ _) | (with_reducible refine Kd.C_drewN ?_ _) | (with_reducible refine Kd.C_drew ?_))); (case side2 => exact (Kd.R_reads' HO116.out).2.1); rintro e w27 ⟨v118, rfl, ho0, hb⟩; refine ⟨_, rfl, ?_⟩; have HO119 := am (Kd.N_lower (Kd.N_mono (ok' := fun k_ => some k_ ≠ (v106 : Value).ownBlock ∧ some k_ ≠ (.slice Ao26 y114.length co26 : Value).ownBlock) ho0 (fun k_ hk_ => ⟨(Kd.fresh' (Kd.N_lt (by (with_reducible repeat (first | apply Kd.N_alloc | apply Kd.N_drewN | apply Kd.N_drew)); exact HO107.out)) k_ hk_), (Kd.fresh' (Kd.R_lt (pR HO116.out)) k_ hk_)⟩)) (below_size (pL HB.out))); replace HO107 := am (Kd.N_elder' (by (with_reducible repeat (first | apply Kd.N_alloc | apply Kd.N_drewN | apply Kd.N_drew)); exact HO107.out) (Kd.N_base ho0) hb); replace HO116 := am (Rb_ HO116.out hb); replace HB := am (bs_ HB.out hb); (try clear hb); (try clear hb2); (try clear hk); (try clear hi); (try clear ho0)) | ((with_reducible refine gate_callee (f := 10) rfl ?_); refine goesL_ (some 68) rfl rfl Try.func10 (by kernel_rfl) rfl #[.int .i64 (l0.length : Int)] rfl (by (try simp only [List.map_toArray, List.map_cons, List.map_nil]); first | done | rfl | (simp only [List.length_drop, List.length_take]; rfl)) ?_; (with_reducible refine (lambrequinlaw21_num.calls (l0.length : Int) t120 t121 t122 _ A20.out).mono ?_); rintro e w28 ⟨rfl, hb⟩; refine ⟨_, rfl, ?_⟩; replace HO107 := am (Kd.N_below (by (with_reducible repeat (first | apply Kd.N_alloc | apply Kd.N_drewN | apply Kd.N_drew)); exact HO107.out) hb); replace HO116 := am (Rb_ HO116.out hb); replace HO119 := am (Kd.N_below (by (with_reducible repeat (first | apply Kd.N_alloc | apply Kd.N_drewN | apply Kd.N_drew)); exact HO119.out) hb); replace HB := am (bs_ HB.out hb); (try clear hb); (try clear hb2); (try clear hk); (try clear hi)) | ((with_reducible refine gate_dst (N := 9) rfl ?_); (try (refine gate_guard (by rfl) ?_; dsimp only)); refine box_event ?hg (N := 9) ?hd (cs := #[.bool false, .string (⟨#[]⟩ : ByteArray), .int .i64 0]) (t := 28) ?hr ?_; (case hd => rfl); (case hg => rfl); (case hr => first | (go_simp; done) | (go_simp; rfl)); intro gb123 hg w29 hbox hb; replace HO107 := am (Kd.N_below (Kd.N_elderB (by (with_reducible repeat (first | apply Kd.N_alloc | apply Kd.N_drewN | apply Kd.N_drew)); exact HO107.out) gb123 (Nat.le_of_eq hg.symm)) hb); replace HO116 := am (Rb_ HO116.out hb); replace HO119 := am (Kd.N_below (Kd.N_elderB (by (with_reducible repeat (first | apply Kd.N_alloc | apply Kd.N_drewN | apply Kd.N_drew)); exact HO119.out) gb123 (Nat.le_of_eq hg.symm)) hb); have BK123 := am (hbox); have GW123 := am (gw_ hg HB.out); have GE123 := GW123; replace HB := am (bs_ HB.out hb); clear hb hbox hg; obtain ⟨hcz30_0, hcz30_1, hcz30_2, hfz30_0, hfz30_1, hfz30_2⟩ := bc3 BK123.out))
         go_loopg [10] k2 (fun kq v10 w' => ∃ (x10_3 : Int), v10 = .int .i64 x10_3 ∧ Aside0 (lambrequinlaw21_FactsMore.l1 kq a1 t101 t105 t117 x10_3 t120 t121 t122 = some r) ∧ Aside0 (kq ≤ k2) ∧ Aside0 (Kd.N k44 44 w' w.heap.size (fun k_ => some k_ ≠ (v118 : Value).ownBlock ∧ k_ ≠ gb123) v106 t105) ∧ Aside0 (Kd.N k44 44 w' w.heap.size (fun k_ => some k_ ≠ (v106 : Value).ownBlock ∧ k_ ≠ gb123) v118 t117) ∧ Aside0 (w'.heap[gb123]? = some (.cells #[.bool t120, .string t121, .int .i64 t122] 28 (0, 0))) ∧ Aside0 (Below w.heap.size w w'))
         case atStart => exact ⟨(0), rs_, H', ⟨Nat.le_refl _⟩, ⟨by (with_reducible repeat (first | apply Kd.N_alloc | apply Kd.N_drewN | apply Kd.N_drew)); exact Kd.N_mono (Kd.N_far (p := ⟨gb123, 2, none⟩) (Kd.N_far (p := ⟨gb123, 1, none⟩) (Kd.N_far (p := ⟨gb123, 0, none⟩) (Kd.N_mono HO107.out (fun k_ hk => (⟨hk, hk.2⟩ : _ ∧ k_ ≠ gb123))) (fun _ hk => hk.2) _) (fun _ hk => hk.2) _) (fun _ hk => hk.2) _) (fun _ hk => ⟨hk.1.1.2, hk.1.2⟩)⟩, ⟨by (with_reducible repeat (first | apply Kd.N_alloc | apply Kd.N_drewN | apply Kd.N_drew)); exact Kd.N_mono (Kd.N_far (p := ⟨gb123, 2, none⟩) (Kd.N_far (p := ⟨gb123, 1, none⟩) (Kd.N_far (p := ⟨gb123, 0, none⟩) (Kd.N_mono HO119.out (fun k_ hk => (⟨hk, hk.2⟩ : _ ∧ k_ ≠ gb123))) (fun _ hk => hk.2) _) (fun _ hk => hk.2) _) (fun _ hk => hk.2) _) (fun _ hk => ⟨hk.1.1.1, hk.1.2⟩)⟩, ⟨by (with_reducible repeat (first | refine bN ?_ _ | refine bD ?_ | refine bA ?_ _)); exact bq3 BK123.out⟩, ⟨pL HB.out⟩⟩
         case round =>
          clear H'
          try clear c1
          try clear p1
          try clear q1
          try clear hx1
          try clear p2
          try clear c6
          try clear c6b0
          try clear c6b1
          try clear p6
          try clear c7
          try clear c7b0
          try clear c7b1
          try clear c7b2
          try clear c8
          try clear c9
          try clear c9b0
          try clear c10
          try clear c10b0
          try clear p10
          try clear q10
          try clear hx10
          try clear c11
          try clear c12
          try clear c12b0
          try clear c13
          try clear c13b0
          try clear c14
          try clear c14b0
          try clear c14b1
          try clear c15
          try clear c15b0
          try clear c15b1
          try clear c17
          try clear c18
          try clear hcz30_0
          try clear hcz30_1
          try clear hcz30_2
          try clear hfz30_0
          try clear hfz30_1
          try clear hfz30_2
          try clear hx102_0
          try clear hx102_1
          try clear hx102_2
          try clear hx102_3
          try clear hx102_4
          try clear hx102_5
          try clear hx102_6
          try clear hx102_7
          try clear hx103_0
          try clear hx103_1
          try clear hx103_2
          try clear hx103_3
          try clear hx103_4
          try clear hx103_5
          try clear hx103_6
          try clear hx103_7
          try clear hx104_0
          try clear hx104_1
          try clear hx104_2
          try clear hx104_3
          try clear hx104_4
          try clear hx104_5
          try clear hx104_6
          try clear hx104_7
          try clear p1
          try clear p10
          try clear p102
          try clear p103
          try clear p104
          try clear p2
          try clear p6
          try clear q1
          try clear q10
          try clear q102
          try clear q103
          try clear q104
          obtain ⟨x10_3, rfl, HA, HK3, HO_7, HO_8, BK123, HB⟩ := hrel
          cases gk with
          | zero => exact absurd HA.out (by simp [lambrequinlaw21_FactsMore.l1])
          | succ k3 =>
           have H := HA.out
           clear HA
           simp only [lambrequinlaw21_FactsMore.l1] at H
           by_cases c31 : x10_3 < (t105.length : Int)
           ·rw [if_pos c31] at H
            have c31b0 : decide (x10_3 < (t105.length : Int)) = true := decide_eq_true c31
            clear c31
            by_cases c32 : 0 ≤ x10_3
            ·rw [if_pos c32] at H
             have c32b0 : decide (0 ≤ x10_3) = true := decide_eq_true c32
             clear c32
             replace H := Option.bind_eq_some_iff.mp H
             obtain ⟨t126, A330, H⟩ := H
             replace H : (if t126 = true then (lambrequinlaw21_FactsMore.l1 k3 a1 t101 t105 t117 (wrap64 (x10_3 + 1)) t120 t121 t122) else (some false)) = some r := H
             have A33 := am A330
             clear A330
             by_cases c34 : t126 = true
             ·subst c34
              have H1 : (lambrequinlaw21_FactsMore.l1 k3 a1 t101 t105 t117 (wrap64 (x10_3 + 1)) t120 t121 t122) = some r := by rw [if_pos rfl] at H; exact H
              clear H
              have H := H1
              clear H1
              have H' := am H
              clear H
              obtain ⟨Ao35, co35, eo35⟩ := Kd.N_slice HO_7.out
              subst eo35
              try go_wp2
              replace HO_7 := am (Kd.N_drew HO_7.out)
              replace HO_8 := am (Kd.N_drew HO_8.out)
              replace BK123 := am (blk_drew BK123.out)
              replace HB := am (below_drew1 HB.out)
              have p124 : 0 ≤ (x10_3 : Int) := dt_
              have q124 : x10_3 < (t105.length : Int) := dt_
              obtain ⟨ad124, A124_1, c124_1, e124, hx124_0, hx124_1, hl124_1, hi124_1⟩ := at_T44 (Kd.N_reads' HO_7.out).2.2 x10_3 p124 q124
              cases e124
              obtain ⟨ce124, hce124, hMe124, hcc124⟩ := Kd.N_get HO_7.out z44 x10_3 p124 (by first | exact q124 | exact dt_ | (have e_ := (Kd.N_reads' HO_7.out).1; omega))
              obtain ⟨ua124_1, uc124_1, rfl, ul124_1, ge124_1⟩ := k44_openF hMe124
              have hv124_1 := hcc124 1 _ rfl
              rw [add_field _ _ 1 (by omega)] at hv124_1
              replace hv124_1 := Option.some.inj (hv124_1.symm.trans hx124_1)
              injection hv124_1 with hva_ hvn_ hvc_
              rw [hva_] at ge124_1
              rw [hvc_] at ul124_1
              have HL124_1 := am (show Kd.V k28 28 _ w.heap.size _ _ ((rd_T44 t105 x10_3).args) from Kd.V_mk ul124_1 ge124_1)
              clear hva_ hvn_ hvc_ ge124_1 ul124_1
              clear hcc124 hce124
              have HR124_1 := am hi124_1
              have HC124_1 := am hl124_1
              clear hi124_1 hl124_1
              replace p124 := eq_true p124
              replace q124 := eq_true q124
              have p125 : 0 ≤ (x10_3 : Int) := dt_
              have q125 : x10_3 < (t105.length : Int) := dt_
              obtain ⟨ad125, A125_1, c125_1, e125, hx125_0, hx125_1, hl125_1, hi125_1⟩ := at_T44 (Kd.N_reads' HO_7.out).2.2 x10_3 p125 q125
              obtain rfl : ad124 = ad125 := (by injection e125)
              obtain ⟨ce125, hce125, hMe125, hcc125⟩ := Kd.N_get HO_7.out z44 x10_3 p125 (by first | exact q125 | exact dt_ | (have e_ := (Kd.N_reads' HO_7.out).1; omega))
              obtain ⟨ua125_1, uc125_1, rfl, ul125_1, ge125_1⟩ := k44_openF hMe125
              have hv125_1 := hcc125 1 _ rfl
              rw [add_field _ _ 1 (by omega)] at hv125_1
              replace hv125_1 := Option.some.inj (hv125_1.symm.trans hx125_1)
              injection hv125_1 with hva_ hvn_ hvc_
              rw [hva_] at ge125_1
              rw [hvc_] at ul125_1
              have HL125_1 := am (show Kd.V k28 28 _ w.heap.size _ _ ((rd_T44 t105 x10_3).args) from Kd.V_mk ul125_1 ge125_1)
              clear hva_ hvn_ hvc_ ge125_1 ul125_1
              clear hcc125 hce125
              have HR125_1 := am hi125_1
              have HC125_1 := am hl125_1
              clear hi125_1 hl125_1
              replace p125 := eq_true p125
              replace q125 := eq_true q125
              have ea_ := Option.some.inj (hx124_1.symm.trans hx125_1)
              injection ea_ with ea_ en_ ec_
              subst ea_
              subst ec_
              clear en_
              obtain ⟨Ao37, co37, eo37⟩ := Kd.N_slice HO_8.out
              (first | subst eo37 | (injection eo37 with f1_ f2_ f3_; have f4_ := f1_.symm; have f5_ := f3_.symm; clear f1_ f2_ f3_; subst f4_; subst f5_))
              refine start_ (n := 13) (S := fun w' => w'.cell? (ad124.add ((x10_3).toNat * 2)) = some (.string ((rd_T44 t105 x10_3).pred)) ∧ w'.cell? ⟨(ad124.add ((x10_3).toNat * 2)).block, (ad124.add ((x10_3).toNat * 2)).off + 1, none⟩ = some (.slice A124_1 ((rd_T44 t105 x10_3).args).length c124_1) ∧ w'.cell? (ad124.add ((x10_3).toNat * 2)) = some (.string ((rd_T44 t105 x10_3).pred)) ∧ w'.cell? ⟨(ad124.add ((x10_3).toNat * 2)).block, (ad124.add ((x10_3).toNat * 2)).off + 1, none⟩ = some (.slice A124_1 ((rd_T44 t105 x10_3).args).length c124_1)) (ds := []) (bl 13 0) (by kernel_rfl) rfl rfl ⟨hx124_0, hx124_1, hx125_0, hx125_1⟩ (fun hHeld => ?_); refine with_tabW lambrequinlaw21_FactsMore.tab15 lambrequinlaw21_FactsMore.bits15 (fun HT_ HW_ => ?_)
              generalize wr.drew = w36 at HO_7 HO_8 BK123 HB HL124_1 HL125_1 HR124_1 HR125_1 hx124_0 hx124_1 hx125_0 hx125_1 hHeld ⊢
              refine pure_ (i := 0) (N := some 75) (v := ?_) (a' := ?_) (bl 13 1) rfl rfl (any_of HT_.out (by kernel_rfl)) (fun _ _ _ h => h) (Or.inl ⟨by rfl, ?_⟩) ?_ ?_
              rotate_left
              ·intro w'
               go_simp
               with_reducible rfl
              rotate_left
              ·simp only [Act.put, sA, sZ, sS, i64_w, i32_w]
               rfl
              refine pure_ (i := 1) (N := some 76) (v := ?_) (a' := ?_) (bl 13 3) rfl rfl (any_of HT_.out (by kernel_rfl)) (fun _ _ _ h => h) (Or.inl ⟨by rfl, ?_⟩) ?_ ?_
              rotate_left
              ·intro w'
               go_simp
               with_reducible rfl
              rotate_left
              ·simp only [Act.put, sA, sZ, sS, i64_w, i32_w]
               rfl
              refine pure_ (i := 2) (N := some 77) (v := ?_) (a' := ?_) (bl 13 7) rfl rfl (any_of HT_.out (by kernel_rfl)) (fun _ _ _ h => h) (Or.inl ⟨by rfl, ?_⟩) ?_ ?_
              rotate_left
              ·intro w'
               go_simp
               with_reducible rfl
              rotate_left
              ·simp only [Act.put, sA, sZ, sS, i64_w, i32_w]
               rfl
              refine pure_ (i := 3) (N := some 78) (v := ?_) (a' := ?_) (bl 13 15) rfl rfl (any_of HT_.out (by kernel_rfl)) (fun _ _ _ h => h) (Or.inl ⟨by rfl, ?_⟩) ?_ ?_
              rotate_left
              ·intro w'
               go_simp
               with_reducible rfl
              rotate_left
              ·simp only [Act.put, sA, sZ, sS, i64_w, i32_w]
               rfl
              refine pure_ (i := 4) (N := some 79) (v := ?_) (a' := ?_) (bl 13 31) rfl rfl (any_of HT_.out (by kernel_rfl)) (fun _ _ _ h => h) (Or.inl ⟨by rfl, ?_⟩) ?_ ?_
              rotate_left
              ·intro w'
               go_simp
               with_reducible rfl
              rotate_left
              ·simp only [Act.put, sA, sZ, sS, i64_w, i32_w]
               rfl
              refine pure_ (i := 6) (N := some 81) (v := ?_) (a' := ?_) (bl 13 95) rfl rfl (any_of HT_.out (by kernel_rfl)) (fun _ _ _ h => h) (Or.inl ⟨by rfl, ?_⟩) ?_ ?_
              rotate_left
              ·intro w'
               go_simp
               with_reducible rfl
              rotate_left
              ·simp only [Act.put, sA, sZ, sS, i64_w, i32_w]
               rfl
              refine pure_ (i := 7) (N := some 82) (v := ?_) (a' := ?_) (bl 13 223) rfl rfl (any_of HT_.out (by kernel_rfl)) (fun _ _ _ h => h) (Or.inl ⟨by rfl, ?_⟩) ?_ ?_
              rotate_left
              ·intro w'
               go_simp
               with_reducible rfl
              rotate_left
              ·simp only [Act.put, sA, sZ, sS, i64_w, i32_w]
               rfl
              refine pure_ (i := 8) (N := some 83) (v := ?_) (a' := ?_) (bl 13 479) rfl rfl (any_of HT_.out (by kernel_rfl)) (fun _ _ _ h => h) (Or.inl ⟨by rfl, ?_⟩) ?_ ?_
              rotate_left
              ·intro w'
               go_simp
               with_reducible rfl
              rotate_left
              ·simp only [Act.put, sA, sZ, sS, i64_w, i32_w]
               rfl
              refine pure_ (i := 9) (N := some 84) (v := ?_) (a' := ?_) (bl 13 991) rfl rfl (any_of HT_.out (by kernel_rfl)) (fun _ _ _ h => h) (Or.inl ⟨by rfl, ?_⟩) ?_ ?_
              rotate_left
              ·intro w'
               go_simp
               with_reducible rfl
              rotate_left
              ·simp only [Act.put, sA, sZ, sS, i64_w, i32_w]
               rfl
              refine take_ (i := 5) (N := some 80) (v := ?_) (a' := ?_) (bl 13 1023) rfl rfl (take_ofW HT_.out HW_.out (by kernel_rfl)) (fun _ _ _ h => h) (Or.inl ⟨by rfl, ?_⟩) hHeld ?_ ?_
              rotate_left
              ·rintro w' ⟨s0, s1, s2, s3⟩
               go_simp
               with_reducible rfl
              rotate_left
              ·simp only [Act.put, sA, sZ, sS, i64_w, i32_w]
               rfl
              refine take_ (i := 10) (N := some 85) (v := ?_) (a' := ?_) (bl 13 2047) rfl rfl (take_ofW HT_.out HW_.out (by kernel_rfl)) (fun _ _ _ h => h) (Or.inl ⟨by rfl, ?_⟩) hHeld ?_ ?_
              rotate_left
              ·rintro w' ⟨s0, s1, s2, s3⟩
               go_simp
               with_reducible rfl
              rotate_left
              ·simp only [Act.put, sA, sZ, sS, i64_w, i32_w]
               rfl
              refine one_ (i := 11) (N := some 86) (bl 13 4095) rfl rfl (one_of HT_.out (by kernel_rfl)) (by decide) (fun K hK => ?_)
              refine goes_ Try.func17 (by kernel_rfl) rfl #[.slice Ao37 t117.length co37, .string ((rd_T44 t105 x10_3).pred), .slice A124_1 ((rd_T44 t105 x10_3).args).length c124_1] (by rfl) rfl rfl (by (try simp only [List.map_toArray, List.map_cons, List.map_nil]); first | done | rfl | (simp only [List.length_drop, List.length_take]; rfl)) ?_
              with_reducible refine (lambrequinref14_Has.calls k3 _ _ t117 ((rd_T44 t105 x10_3).pred) _ _ ((rd_T44 t105 x10_3).args) true _ ?side1 ?side2 ?side3 ?side4 A33.out).mono ?_
              (case side1 => repeat (first | exact (Kd.N_reads' HO_8.out).2.2 | (with_reducible refine Kd.C_alloc ?_ _) | (with_reducible refine Kd.C_drewN ?_ _) | (with_reducible refine Kd.C_drew ?_)))
              (case side2 => exact (Kd.N_reads' HO_8.out).2.1)
              (case side3 => repeat (first | exact (by repeat (first | (with_reducible exact HR125_1.out) | (with_reducible refine Kd.C_alloc ?_ _) | (with_reducible refine Kd.C_drewN ?_ _) | (with_reducible refine Kd.C_drew ?_) | exact HR125_1.out)) | (with_reducible refine Kd.C_alloc ?_ _) | (with_reducible refine Kd.C_drewN ?_ _) | (with_reducible refine Kd.C_drew ?_)))
              (case side4 => exact HC125_1.out)
              rintro e w38 ⟨rfl, hb⟩
              have HS0_ := (hb.cell (blt_ (hHeld.1))).trans (hHeld.1)
              have HS1_ := (hb.cell (blt_ (hHeld.2.1))).trans (hHeld.2.1)
              have HS2_ := (hb.cell (blt_ (hHeld.2.2.1))).trans (hHeld.2.2.1)
              have HS3_ := (hb.cell (blt_ (hHeld.2.2.2))).trans (hHeld.2.2.2)
              refine ⟨_, rfl, ?_⟩
              replace HO_7 := am (Kd.N_below (by (with_reducible repeat (first | apply Kd.N_alloc | apply Kd.N_drewN | apply Kd.N_drew)); exact HO_7.out) hb)
              replace HO_8 := am (Kd.N_below (by (with_reducible repeat (first | apply Kd.N_alloc | apply Kd.N_drewN | apply Kd.N_drew)); exact HO_8.out) hb)
              replace HL124_1 := am (Kd.V_below (pV HL124_1.out) hb)
              replace HL125_1 := am (Kd.V_below (pV HL125_1.out) hb)
              replace BK123 := am (bb_ BK123.out hb)
              replace HR124_1 := am (Kd.C_below (by repeat (first | (with_reducible exact HR124_1.out) | (with_reducible refine Kd.C_alloc ?_ _) | (with_reducible refine Kd.C_drewN ?_ _) | (with_reducible refine Kd.C_drew ?_) | exact HR124_1.out)) hb)
              replace HR125_1 := am (Kd.C_below (by repeat (first | (with_reducible exact HR125_1.out) | (with_reducible refine Kd.C_alloc ?_ _) | (with_reducible refine Kd.C_drewN ?_ _) | (with_reducible refine Kd.C_drew ?_) | exact HR125_1.out)) hb)
              replace HB := am (bs_ HB.out hb)
              (try clear hb)
              (try clear hb2)
              (try clear hk)
              (try clear hi)
              refine hK.out _ _ ⟨HS0_, HS1_, HS2_, HS3_⟩ (fun hHeld => ?_)
              clear hK K
              refine norm_ (a' := ?_) ?_ ?_
              rotate_left
              ·show Act.put _ (some 86) _ = _
               simp only [Act.put, sA, sZ, sS, i64_w, i32_w]
               rfl
              refine pure_ (i := 12) (N := some 87) (v := ?_) (a' := ?_) (bl 13 8191) rfl rfl (any_of HT_.out (by kernel_rfl)) (fun _ _ _ h => h) (Or.inl ⟨by rfl, ?_⟩) ?_ ?_
              rotate_left
              ·intro w'
               go_simp
               with_reducible rfl
              rotate_left
              ·simp only [Act.put, sA, sZ, sS, i64_w, i32_w]
               rfl
              refine done_ (done_of HT_.out (by kernel_rfl)) ?_
              try go_wp2
              go_roundg k3
              case measure => have := HJ3.out; have := HK2.out; have := HK3.out; omega
              case rel => exact ⟨(wrap64 (x10_3 + 1)), rs_, H', ⟨by have := HJ3.out; have := HK2.out; have := HK3.out; omega⟩, ⟨by (with_reducible repeat (first | apply Kd.N_alloc | apply Kd.N_drewN | apply Kd.N_drew)); exact HO_7.out⟩, ⟨by (with_reducible repeat (first | apply Kd.N_alloc | apply Kd.N_drewN | apply Kd.N_drew)); exact HO_8.out⟩, ⟨pB BK123.out⟩, ⟨pL HB.out⟩⟩
             ·replace c34 := Bool.eq_false_iff.mpr c34
              subst c34
              have H1 : (some false) = some r := by rw [if_neg (show ¬ (false = true) by decide)] at H; exact H
              clear H
              have H := H1
              clear H1
              obtain rfl := Option.some.inj H
              obtain ⟨Ao39, co39, eo39⟩ := Kd.N_slice HO_7.out
              subst eo39
              try go_wp2
              replace HO_7 := am (Kd.N_drew HO_7.out)
              replace HO_8 := am (Kd.N_drew HO_8.out)
              replace BK123 := am (blk_drew BK123.out)
              replace HB := am (below_drew1 HB.out)
              have p124 : 0 ≤ (x10_3 : Int) := dt_
              have q124 : x10_3 < (t105.length : Int) := dt_
              obtain ⟨ad124, A124_1, c124_1, e124, hx124_0, hx124_1, hl124_1, hi124_1⟩ := at_T44 (Kd.N_reads' HO_7.out).2.2 x10_3 p124 q124
              cases e124
              obtain ⟨ce124, hce124, hMe124, hcc124⟩ := Kd.N_get HO_7.out z44 x10_3 p124 (by first | exact q124 | exact dt_ | (have e_ := (Kd.N_reads' HO_7.out).1; omega))
              obtain ⟨ua124_1, uc124_1, rfl, ul124_1, ge124_1⟩ := k44_openF hMe124
              have hv124_1 := hcc124 1 _ rfl
              rw [add_field _ _ 1 (by omega)] at hv124_1
              replace hv124_1 := Option.some.inj (hv124_1.symm.trans hx124_1)
              injection hv124_1 with hva_ hvn_ hvc_
              rw [hva_] at ge124_1
              rw [hvc_] at ul124_1
              have HL124_1 := am (show Kd.V k28 28 _ w.heap.size _ _ ((rd_T44 t105 x10_3).args) from Kd.V_mk ul124_1 ge124_1)
              clear hva_ hvn_ hvc_ ge124_1 ul124_1
              clear hcc124 hce124
              have HR124_1 := am hi124_1
              have HC124_1 := am hl124_1
              clear hi124_1 hl124_1
              replace p124 := eq_true p124
              replace q124 := eq_true q124
              have p125 : 0 ≤ (x10_3 : Int) := dt_
              have q125 : x10_3 < (t105.length : Int) := dt_
              obtain ⟨ad125, A125_1, c125_1, e125, hx125_0, hx125_1, hl125_1, hi125_1⟩ := at_T44 (Kd.N_reads' HO_7.out).2.2 x10_3 p125 q125
              obtain rfl : ad124 = ad125 := (by injection e125)
              obtain ⟨ce125, hce125, hMe125, hcc125⟩ := Kd.N_get HO_7.out z44 x10_3 p125 (by first | exact q125 | exact dt_ | (have e_ := (Kd.N_reads' HO_7.out).1; omega))
              obtain ⟨ua125_1, uc125_1, rfl, ul125_1, ge125_1⟩ := k44_openF hMe125
              have hv125_1 := hcc125 1 _ rfl
              rw [add_field _ _ 1 (by omega)] at hv125_1
              replace hv125_1 := Option.some.inj (hv125_1.symm.trans hx125_1)
              injection hv125_1 with hva_ hvn_ hvc_
              rw [hva_] at ge125_1
              rw [hvc_] at ul125_1
              have HL125_1 := am (show Kd.V k28 28 _ w.heap.size _ _ ((rd_T44 t105 x10_3).args) from Kd.V_mk ul125_1 ge125_1)
              clear hva_ hvn_ hvc_ ge125_1 ul125_1
              clear hcc125 hce125
              have HR125_1 := am hi125_1
              have HC125_1 := am hl125_1
              clear hi125_1 hl125_1
              replace p125 := eq_true p125
              replace q125 := eq_true q125
              have ea_ := Option.some.inj (hx124_1.symm.trans hx125_1)
              injection ea_ with ea_ en_ ec_
              subst ea_
              subst ec_
              clear en_
              obtain ⟨Ao41, co41, eo41⟩ := Kd.N_slice HO_8.out
              (first | subst eo41 | (injection eo41 with f1_ f2_ f3_; have f4_ := f1_.symm; have f5_ := f3_.symm; clear f1_ f2_ f3_; subst f4_; subst f5_))
              refine start_ (n := 13) (S := fun w' => w'.cell? (ad124.add ((x10_3).toNat * 2)) = some (.string ((rd_T44 t105 x10_3).pred)) ∧ w'.cell? ⟨(ad124.add ((x10_3).toNat * 2)).block, (ad124.add ((x10_3).toNat * 2)).off + 1, none⟩ = some (.slice A124_1 ((rd_T44 t105 x10_3).args).length c124_1) ∧ w'.cell? (ad124.add ((x10_3).toNat * 2)) = some (.string ((rd_T44 t105 x10_3).pred)) ∧ w'.cell? ⟨(ad124.add ((x10_3).toNat * 2)).block, (ad124.add ((x10_3).toNat * 2)).off + 1, none⟩ = some (.slice A124_1 ((rd_T44 t105 x10_3).args).length c124_1)) (ds := []) (bl 13 0) (by kernel_rfl) rfl rfl ⟨hx124_0, hx124_1, hx125_0, hx125_1⟩ (fun hHeld => ?_); refine with_tabW lambrequinlaw21_FactsMore.tab15 lambrequinlaw21_FactsMore.bits15 (fun HT_ HW_ => ?_)
              generalize wr.drew = w40 at HO_7 HO_8 BK123 HB HL124_1 HL125_1 HR124_1 HR125_1 hx124_0 hx124_1 hx125_0 hx125_1 hHeld ⊢
              refine pure_ (i := 0) (N := some 75) (v := ?_) (a' := ?_) (bl 13 1) rfl rfl (any_of HT_.out (by kernel_rfl)) (fun _ _ _ h => h) (Or.inl ⟨by rfl, ?_⟩) ?_ ?_
              rotate_left
              ·intro w'
               go_simp
               with_reducible rfl
              rotate_left
              ·simp only [Act.put, sA, sZ, sS, i64_w, i32_w]
               rfl
              refine pure_ (i := 1) (N := some 76) (v := ?_) (a' := ?_) (bl 13 3) rfl rfl (any_of HT_.out (by kernel_rfl)) (fun _ _ _ h => h) (Or.inl ⟨by rfl, ?_⟩) ?_ ?_
              rotate_left
              ·intro w'
               go_simp
               with_reducible rfl
              rotate_left
              ·simp only [Act.put, sA, sZ, sS, i64_w, i32_w]
               rfl
              refine pure_ (i := 2) (N := some 77) (v := ?_) (a' := ?_) (bl 13 7) rfl rfl (any_of HT_.out (by kernel_rfl)) (fun _ _ _ h => h) (Or.inl ⟨by rfl, ?_⟩) ?_ ?_
              rotate_left
              ·intro w'
               go_simp
               with_reducible rfl
              rotate_left
              ·simp only [Act.put, sA, sZ, sS, i64_w, i32_w]
               rfl
              refine pure_ (i := 3) (N := some 78) (v := ?_) (a' := ?_) (bl 13 15) rfl rfl (any_of HT_.out (by kernel_rfl)) (fun _ _ _ h => h) (Or.inl ⟨by rfl, ?_⟩) ?_ ?_
              rotate_left
              ·intro w'
               go_simp
               with_reducible rfl
              rotate_left
              ·simp only [Act.put, sA, sZ, sS, i64_w, i32_w]
               rfl
              refine pure_ (i := 4) (N := some 79) (v := ?_) (a' := ?_) (bl 13 31) rfl rfl (any_of HT_.out (by kernel_rfl)) (fun _ _ _ h => h) (Or.inl ⟨by rfl, ?_⟩) ?_ ?_
              rotate_left
              ·intro w'
               go_simp
               with_reducible rfl
              rotate_left
              ·simp only [Act.put, sA, sZ, sS, i64_w, i32_w]
               rfl
              refine pure_ (i := 6) (N := some 81) (v := ?_) (a' := ?_) (bl 13 95) rfl rfl (any_of HT_.out (by kernel_rfl)) (fun _ _ _ h => h) (Or.inl ⟨by rfl, ?_⟩) ?_ ?_
              rotate_left
              ·intro w'
               go_simp
               with_reducible rfl
              rotate_left
              ·simp only [Act.put, sA, sZ, sS, i64_w, i32_w]
               rfl
              refine pure_ (i := 7) (N := some 82) (v := ?_) (a' := ?_) (bl 13 223) rfl rfl (any_of HT_.out (by kernel_rfl)) (fun _ _ _ h => h) (Or.inl ⟨by rfl, ?_⟩) ?_ ?_
              rotate_left
              ·intro w'
               go_simp
               with_reducible rfl
              rotate_left
              ·simp only [Act.put, sA, sZ, sS, i64_w, i32_w]
               rfl
              refine pure_ (i := 8) (N := some 83) (v := ?_) (a' := ?_) (bl 13 479) rfl rfl (any_of HT_.out (by kernel_rfl)) (fun _ _ _ h => h) (Or.inl ⟨by rfl, ?_⟩) ?_ ?_
              rotate_left
              ·intro w'
               go_simp
               with_reducible rfl
              rotate_left
              ·simp only [Act.put, sA, sZ, sS, i64_w, i32_w]
               rfl
              refine pure_ (i := 9) (N := some 84) (v := ?_) (a' := ?_) (bl 13 991) rfl rfl (any_of HT_.out (by kernel_rfl)) (fun _ _ _ h => h) (Or.inl ⟨by rfl, ?_⟩) ?_ ?_
              rotate_left
              ·intro w'
               go_simp
               with_reducible rfl
              rotate_left
              ·simp only [Act.put, sA, sZ, sS, i64_w, i32_w]
               rfl
              refine take_ (i := 5) (N := some 80) (v := ?_) (a' := ?_) (bl 13 1023) rfl rfl (take_ofW HT_.out HW_.out (by kernel_rfl)) (fun _ _ _ h => h) (Or.inl ⟨by rfl, ?_⟩) hHeld ?_ ?_
              rotate_left
              ·rintro w' ⟨s0, s1, s2, s3⟩
               go_simp
               with_reducible rfl
              rotate_left
              ·simp only [Act.put, sA, sZ, sS, i64_w, i32_w]
               rfl
              refine take_ (i := 10) (N := some 85) (v := ?_) (a' := ?_) (bl 13 2047) rfl rfl (take_ofW HT_.out HW_.out (by kernel_rfl)) (fun _ _ _ h => h) (Or.inl ⟨by rfl, ?_⟩) hHeld ?_ ?_
              rotate_left
              ·rintro w' ⟨s0, s1, s2, s3⟩
               go_simp
               with_reducible rfl
              rotate_left
              ·simp only [Act.put, sA, sZ, sS, i64_w, i32_w]
               rfl
              refine one_ (i := 11) (N := some 86) (bl 13 4095) rfl rfl (one_of HT_.out (by kernel_rfl)) (by decide) (fun K hK => ?_)
              refine goes_ Try.func17 (by kernel_rfl) rfl #[.slice Ao41 t117.length co41, .string ((rd_T44 t105 x10_3).pred), .slice A124_1 ((rd_T44 t105 x10_3).args).length c124_1] (by rfl) rfl rfl (by (try simp only [List.map_toArray, List.map_cons, List.map_nil]); first | done | rfl | (simp only [List.length_drop, List.length_take]; rfl)) ?_
              with_reducible refine (lambrequinref14_Has.calls k3 _ _ t117 ((rd_T44 t105 x10_3).pred) _ _ ((rd_T44 t105 x10_3).args) false _ ?side1 ?side2 ?side3 ?side4 A33.out).mono ?_
              (case side1 => repeat (first | exact (Kd.N_reads' HO_8.out).2.2 | (with_reducible refine Kd.C_alloc ?_ _) | (with_reducible refine Kd.C_drewN ?_ _) | (with_reducible refine Kd.C_drew ?_)))
              (case side2 => exact (Kd.N_reads' HO_8.out).2.1)
              (case side3 => repeat (first | exact (by repeat (first | (with_reducible exact HR125_1.out) | (with_reducible refine Kd.C_alloc ?_ _) | (with_reducible refine Kd.C_drewN ?_ _) | (with_reducible refine Kd.C_drew ?_) | exact HR125_1.out)) | (with_reducible refine Kd.C_alloc ?_ _) | (with_reducible refine Kd.C_drewN ?_ _) | (with_reducible refine Kd.C_drew ?_)))
              (case side4 => exact HC125_1.out)
              rintro e w42 ⟨rfl, hb⟩
              have HS0_ := (hb.cell (blt_ (hHeld.1))).trans (hHeld.1)
              have HS1_ := (hb.cell (blt_ (hHeld.2.1))).trans (hHeld.2.1)
              have HS2_ := (hb.cell (blt_ (hHeld.2.2.1))).trans (hHeld.2.2.1)
              have HS3_ := (hb.cell (blt_ (hHeld.2.2.2))).trans (hHeld.2.2.2)
              refine ⟨_, rfl, ?_⟩
              replace HO_7 := am (Kd.N_below (by (with_reducible repeat (first | apply Kd.N_alloc | apply Kd.N_drewN | apply Kd.N_drew)); exact HO_7.out) hb)
              replace HO_8 := am (Kd.N_below (by (with_reducible repeat (first | apply Kd.N_alloc | apply Kd.N_drewN | apply Kd.N_drew)); exact HO_8.out) hb)
              replace HL124_1 := am (Kd.V_below (pV HL124_1.out) hb)
              replace HL125_1 := am (Kd.V_below (pV HL125_1.out) hb)
              replace BK123 := am (bb_ BK123.out hb)
              replace HR124_1 := am (Kd.C_below (by repeat (first | (with_reducible exact HR124_1.out) | (with_reducible refine Kd.C_alloc ?_ _) | (with_reducible refine Kd.C_drewN ?_ _) | (with_reducible refine Kd.C_drew ?_) | exact HR124_1.out)) hb)
              replace HR125_1 := am (Kd.C_below (by repeat (first | (with_reducible exact HR125_1.out) | (with_reducible refine Kd.C_alloc ?_ _) | (with_reducible refine Kd.C_drewN ?_ _) | (with_reducible refine Kd.C_drew ?_) | exact HR125_1.out)) hb)
              replace HB := am (bs_ HB.out hb)
              (try clear hb)
              (try clear hb2)
              (try clear hk)
              (try clear hi)
              refine hK.out _ _ ⟨HS0_, HS1_, HS2_, HS3_⟩ (fun hHeld => ?_)
              clear hK K
              refine norm_ (a' := ?_) ?_ ?_
              rotate_left
              ·show Act.put _ (some 86) _ = _
               simp only [Act.put, sA, sZ, sS, i64_w, i32_w]
               rfl
              refine pure_ (i := 12) (N := some 87) (v := ?_) (a' := ?_) (bl 13 8191) rfl rfl (any_of HT_.out (by kernel_rfl)) (fun _ _ _ h => h) (Or.inl ⟨by rfl, ?_⟩) ?_ ?_
              rotate_left
              ·intro w'
               go_simp
               with_reducible rfl
              rotate_left
              ·simp only [Act.put, sA, sZ, sS, i64_w, i32_w]
               rfl
              refine done_ (done_of HT_.out (by kernel_rfl)) ?_
              try go_wp2
              go_ret
              exact ⟨by first | rfl | (simp [errW_none, errW_some] <;> rfl) | (simp [*, errW_none, errW_some] <;> rfl), pL HB.out⟩
            ·rw [if_neg c32] at H
             exact absurd H (by simp)
           ·rw [if_neg c31] at H
            have c31b0 : decide (x10_3 < (t105.length : Int)) = false := decide_eq_false c31
            clear c31
            by_cases c43 : t101 = true
            ·subst c43
             have H1 : (if (t117.length : Int) = (wrap64 ((t105.length : Int) + 3)) then ((facts_Has.f t117 (⟨#[110, 111, 100, 101]⟩ : ByteArray) (([(⟨t120, t121, t122⟩ : Val)] : List (Val)))).bind fun t130 => (if t130 = true then ((lambrequinlaw21_sym.f a1).bind fun bt131 => ((facts_Has.f t117 (⟨#[117, 115, 101]⟩ : ByteArray) (([(⟨t120, t121, t122⟩ : Val), (⟨bt131.1, bt131.2.1, bt131.2.2⟩ : Val)] : List (Val)))).bind fun t137 => (if t137 = true then ((lambrequinlaw21_sym.f a1).bind fun bt138 => ((facts_Has.f t117 (⟨#[115, 105, 110, 107]⟩ : ByteArray) (([(⟨t120, t121, t122⟩ : Val), (⟨bt138.1, bt138.2.1, bt138.2.2⟩ : Val)] : List (Val)))).bind fun t144 => (some t144))) else (some false)))) else (some false))) else (some false)) = some r := by rw [if_pos rfl] at H; exact H
             clear H
             have H := H1
             clear H1
             by_cases c44 : (t117.length : Int) = (wrap64 ((t105.length : Int) + 3))
             ·rw [if_pos c44] at H
              have c44b0 : ((t117.length : Int) == (wrap64 ((t105.length : Int) + 3))) = true := beq_iff_eq.mpr c44
              have c44b1 : ((t117.length : Int) != (wrap64 ((t105.length : Int) + 3))) = false := bne_eq_false_iff_eq.mpr c44
              clear c44
              obtain ⟨y127, hy127⟩ : ∃ y_ : List (Val), y_ = (([(⟨t120, t121, t122⟩ : Val)] : List (Val))) := ⟨_, rfl⟩
              replace H : ((facts_Has.f t117 (⟨#[110, 111, 100, 101]⟩ : ByteArray) y127).bind fun t130 => (if t130 = true then ((lambrequinlaw21_sym.f a1).bind fun bt131 => ((facts_Has.f t117 (⟨#[117, 115, 101]⟩ : ByteArray) (([(⟨t120, t121, t122⟩ : Val), (⟨bt131.1, bt131.2.1, bt131.2.2⟩ : Val)] : List (Val)))).bind fun t137 => (if t137 = true then ((lambrequinlaw21_sym.f a1).bind fun bt138 => ((facts_Has.f t117 (⟨#[115, 105, 110, 107]⟩ : ByteArray) (([(⟨t120, t121, t122⟩ : Val), (⟨bt138.1, bt138.2.1, bt138.2.2⟩ : Val)] : List (Val)))).bind fun t144 => (some t144))) else (some false)))) else (some false))) = some r := by first | (rw [hy127]; with_reducible exact H) | (have H2_ := (Option.bind_some _ _).symm.trans H; rw [hy127]; with_reducible exact H2_) | (have H2_ := (Option.bind_some _ _).symm.trans H; with_reducible exact H2_) | with_reducible exact H | (rw [hy127]; exact H) | exact H
              have Ny127 := am hy127
              clear hy127
              replace H := Option.bind_eq_some_iff.mp H
              obtain ⟨t130, A450, H⟩ := H
              replace H : (if t130 = true then ((lambrequinlaw21_sym.f a1).bind fun bt131 => ((facts_Has.f t117 (⟨#[117, 115, 101]⟩ : ByteArray) (([(⟨t120, t121, t122⟩ : Val), (⟨bt131.1, bt131.2.1, bt131.2.2⟩ : Val)] : List (Val)))).bind fun t137 => (if t137 = true then ((lambrequinlaw21_sym.f a1).bind fun bt138 => ((facts_Has.f t117 (⟨#[115, 105, 110, 107]⟩ : ByteArray) (([(⟨t120, t121, t122⟩ : Val), (⟨bt138.1, bt138.2.1, bt138.2.2⟩ : Val)] : List (Val)))).bind fun t144 => (some t144))) else (some false)))) else (some false)) = some r := H
              have A45 := am A450
              clear A450
              by_cases c46 : t130 = true
              ·subst c46
               have H1 : ((lambrequinlaw21_sym.f a1).bind fun bt131 => ((facts_Has.f t117 (⟨#[117, 115, 101]⟩ : ByteArray) (([(⟨t120, t121, t122⟩ : Val), (⟨bt131.1, bt131.2.1, bt131.2.2⟩ : Val)] : List (Val)))).bind fun t137 => (if t137 = true then ((lambrequinlaw21_sym.f a1).bind fun bt138 => ((facts_Has.f t117 (⟨#[115, 105, 110, 107]⟩ : ByteArray) (([(⟨t120, t121, t122⟩ : Val), (⟨bt138.1, bt138.2.1, bt138.2.2⟩ : Val)] : List (Val)))).bind fun t144 => (some t144))) else (some false)))) = some r := by rw [if_pos rfl] at H; exact H
               clear H
               have H := H1
               clear H1
               replace H := Option.bind_eq_some_iff.mp H
               obtain ⟨⟨t131, t132, t133⟩, A470, H⟩ := H
               replace H : ((facts_Has.f t117 (⟨#[117, 115, 101]⟩ : ByteArray) (([(⟨t120, t121, t122⟩ : Val), (⟨t131, t132, t133⟩ : Val)] : List (Val)))).bind fun t137 => (if t137 = true then ((lambrequinlaw21_sym.f a1).bind fun bt138 => ((facts_Has.f t117 (⟨#[115, 105, 110, 107]⟩ : ByteArray) (([(⟨t120, t121, t122⟩ : Val), (⟨bt138.1, bt138.2.1, bt138.2.2⟩ : Val)] : List (Val)))).bind fun t144 => (some t144))) else (some false))) = some r := H
               have A47 := am A470
               clear A470
               obtain ⟨y134, hy134⟩ : ∃ y_ : List (Val), y_ = (([(⟨t120, t121, t122⟩ : Val), (⟨t131, t132, t133⟩ : Val)] : List (Val))) := ⟨_, rfl⟩
               replace H : ((facts_Has.f t117 (⟨#[117, 115, 101]⟩ : ByteArray) y134).bind fun t137 => (if t137 = true then ((lambrequinlaw21_sym.f a1).bind fun bt138 => ((facts_Has.f t117 (⟨#[115, 105, 110, 107]⟩ : ByteArray) (([(⟨t120, t121, t122⟩ : Val), (⟨bt138.1, bt138.2.1, bt138.2.2⟩ : Val)] : List (Val)))).bind fun t144 => (some t144))) else (some false))) = some r := by first | (rw [hy134]; with_reducible exact H) | (have H2_ := (Option.bind_some _ _).symm.trans H; rw [hy134]; with_reducible exact H2_) | (have H2_ := (Option.bind_some _ _).symm.trans H; with_reducible exact H2_) | with_reducible exact H | (rw [hy134]; exact H) | exact H
               have Ny134 := am hy134
               clear hy134
               replace H := Option.bind_eq_some_iff.mp H
               obtain ⟨t137, A480, H⟩ := H
               replace H : (if t137 = true then ((lambrequinlaw21_sym.f a1).bind fun bt138 => ((facts_Has.f t117 (⟨#[115, 105, 110, 107]⟩ : ByteArray) (([(⟨t120, t121, t122⟩ : Val), (⟨bt138.1, bt138.2.1, bt138.2.2⟩ : Val)] : List (Val)))).bind fun t144 => (some t144))) else (some false)) = some r := H
               have A48 := am A480
               clear A480
               by_cases c49 : t137 = true
               ·subst c49
                have H1 : ((lambrequinlaw21_sym.f a1).bind fun bt138 => ((facts_Has.f t117 (⟨#[115, 105, 110, 107]⟩ : ByteArray) (([(⟨t120, t121, t122⟩ : Val), (⟨bt138.1, bt138.2.1, bt138.2.2⟩ : Val)] : List (Val)))).bind fun t144 => (some t144))) = some r := by rw [if_pos rfl] at H; exact H
                clear H
                have H := H1
                clear H1
                replace H := Option.bind_eq_some_iff.mp H
                obtain ⟨⟨t138, t139, t140⟩, A500, H⟩ := H
                replace H : ((facts_Has.f t117 (⟨#[115, 105, 110, 107]⟩ : ByteArray) (([(⟨t120, t121, t122⟩ : Val), (⟨t138, t139, t140⟩ : Val)] : List (Val)))).bind fun t144 => (some t144)) = some r := H
                have A50 := am A500
                clear A500
                obtain ⟨y141, hy141⟩ : ∃ y_ : List (Val), y_ = (([(⟨t120, t121, t122⟩ : Val), (⟨t138, t139, t140⟩ : Val)] : List (Val))) := ⟨_, rfl⟩
                replace H : ((facts_Has.f t117 (⟨#[115, 105, 110, 107]⟩ : ByteArray) y141).bind fun t144 => (some t144)) = some r := by first | (rw [hy141]; with_reducible exact H) | (have H2_ := (Option.bind_some _ _).symm.trans H; rw [hy141]; with_reducible exact H2_) | (have H2_ := (Option.bind_some _ _).symm.trans H; with_reducible exact H2_) | with_reducible exact H | (rw [hy141]; exact H) | exact H
                have Ny141 := am hy141
                clear hy141
                replace H := Option.bind_eq_some_iff.mp H
                obtain ⟨t144, A510, H⟩ := H
                replace H : (some t144) = some r := H
                have A51 := am A510
                clear A510
                obtain rfl := Option.some.inj H
                obtain ⟨Ao52, co52, eo52⟩ := Kd.N_slice HO_7.out
                subst eo52
                try go_wp2
                replace HO_7 := am (Kd.N_drew HO_7.out)
                replace HO_8 := am (Kd.N_drew HO_8.out)
                replace BK123 := am (blk_drew BK123.out)
                replace HB := am (below_drew1 HB.out)
                obtain ⟨Ao54, co54, eo54⟩ := Kd.N_slice HO_8.out
                (first | subst eo54 | (injection eo54 with f1_ f2_ f3_; have f4_ := f1_.symm; have f5_ := f3_.symm; clear f1_ f2_ f3_; subst f4_; subst f5_))
                refine start_ (n := 32) (S := fun w' => w'.cell? ⟨gb123, 0, none⟩ = some (.bool t120) ∧ w'.cell? ⟨gb123, 1, none⟩ = some (.string t121) ∧ w'.cell? ⟨gb123, 2, none⟩ = some (.int .i64 t122)) (ds := []) (bl 32 0) (by kernel_rfl) rfl rfl ⟨(blk_cell BK123.out 0).trans rfl, (blk_cell BK123.out 1).trans rfl, (blk_cell BK123.out 2).trans rfl⟩ (fun hHeld => ?_); refine with_tabW lambrequinlaw21_FactsMore.tab17 lambrequinlaw21_FactsMore.bits17 (fun HT_ HW_ => ?_)
                generalize wr.drew = w53 at HO_7 HO_8 BK123 HB hHeld ⊢
                refine pure_ (i := 0) (N := some 88) (v := ?_) (a' := ?_) (bl 32 1) rfl rfl (any_of HT_.out (by kernel_rfl)) (fun _ _ _ h => h) (Or.inl ⟨by rfl, ?_⟩) ?_ ?_
                rotate_left
                ·intro w'
                 go_simp
                 with_reducible rfl
                rotate_left
                ·simp only [Act.put, sA, sZ, sS, i64_w, i32_w]
                 rfl
                refine pure_ (i := 1) (N := some 89) (v := ?_) (a' := ?_) (bl 32 3) rfl rfl (any_of HT_.out (by kernel_rfl)) (fun _ _ _ h => h) (Or.inl ⟨by rfl, ?_⟩) ?_ ?_
                rotate_left
                ·intro w'
                 go_simp
                 with_reducible rfl
                rotate_left
                ·simp only [Act.put, sA, sZ, sS, i64_w, i32_w]
                 rfl
                refine pure_ (i := 2) (N := some 90) (v := ?_) (a' := ?_) (bl 32 7) rfl rfl (any_of HT_.out (by kernel_rfl)) (fun _ _ _ h => h) (Or.inl ⟨by rfl, ?_⟩) ?_ ?_
                rotate_left
                ·intro w'
                 go_simp
                 with_reducible rfl
                rotate_left
                ·simp only [Act.put, sA, sZ, sS, i64_w, i32_w]
                 rfl
                refine pure_ (i := 3) (N := some 91) (v := ?_) (a' := ?_) (bl 32 15) rfl rfl (any_of HT_.out (by kernel_rfl)) (fun _ _ _ h => h) (Or.inl ⟨by rfl, ?_⟩) ?_ ?_
                rotate_left
                ·intro w'
                 go_simp
                 with_reducible rfl
                rotate_left
                ·simp only [Act.put, sA, sZ, sS, i64_w, i32_w]
                 rfl
                refine pure_ (i := 4) (N := some 92) (v := ?_) (a' := ?_) (bl 32 31) rfl rfl (any_of HT_.out (by kernel_rfl)) (fun _ _ _ h => h) (Or.inl ⟨by rfl, ?_⟩) ?_ ?_
                rotate_left
                ·intro w'
                 go_simp
                 with_reducible rfl
                rotate_left
                ·simp only [Act.put, sA, sZ, sS, i64_w, i32_w]
                 rfl
                refine pure_ (i := 5) (N := some 93) (v := ?_) (a' := ?_) (bl 32 63) rfl rfl (any_of HT_.out (by kernel_rfl)) (fun _ _ _ h => h) (Or.inl ⟨by rfl, ?_⟩) ?_ ?_
                rotate_left
                ·intro w'
                 go_simp
                 with_reducible rfl
                rotate_left
                ·simp only [Act.put, sA, sZ, sS, i64_w, i32_w]
                 rfl
                refine pure_ (i := 6) (N := some 94) (v := ?_) (a' := ?_) (bl 32 127) rfl rfl (any_of HT_.out (by kernel_rfl)) (fun _ _ _ h => h) (Or.inl ⟨by rfl, ?_⟩) ?_ ?_
                rotate_left
                ·intro w'
                 go_simp
                 with_reducible rfl
                rotate_left
                ·simp only [Act.put, sA, sZ, sS, i64_w, i32_w]
                 rfl
                refine pure_ (i := 7) (N := some 95) (v := ?_) (a' := ?_) (bl 32 255) rfl rfl (any_of HT_.out (by kernel_rfl)) (fun _ _ _ h => h) (Or.inl ⟨by rfl, ?_⟩) ?_ ?_
                rotate_left
                ·intro w'
                 go_simp
                 with_reducible rfl
                rotate_left
                ·simp only [Act.put, sA, sZ, sS, i64_w, i32_w]
                 rfl
                refine pure_ (i := 8) (N := some 96) (v := ?_) (a' := ?_) (bl 32 511) rfl rfl (any_of HT_.out (by kernel_rfl)) (fun _ _ _ h => h) (Or.inl ⟨by rfl, ?_⟩) ?_ ?_
                rotate_left
                ·intro w'
                 go_simp
                 with_reducible rfl
                rotate_left
                ·simp only [Act.put, sA, sZ, sS, i64_w, i32_w]
                 rfl
                refine pure_ (i := 9) (N := some 97) (v := ?_) (a' := ?_) (bl 32 1023) rfl rfl (any_of HT_.out (by kernel_rfl)) (fun _ _ _ h => h) (Or.inl ⟨by rfl, ?_⟩) ?_ ?_
                rotate_left
                ·intro w'
                 go_simp
                 with_reducible rfl
                rotate_left
                ·simp only [Act.put, sA, sZ, sS, i64_w, i32_w]
                 rfl
                refine pure_ (i := 10) (N := some 98) (v := ?_) (a' := ?_) (bl 32 2047) rfl rfl (any_of HT_.out (by kernel_rfl)) (fun _ _ _ h => h) (Or.inl ⟨by rfl, ?_⟩) ?_ ?_
                rotate_left
                ·intro w'
                 go_simp
                 with_reducible rfl
                rotate_left
                ·simp only [Act.put, sA, sZ, sS, i64_w, i32_w]
                 rfl
                refine take_ (i := 11) (N := some 99) (v := ?_) (a' := ?_) (bl 32 4095) rfl rfl (take_ofW HT_.out HW_.out (by kernel_rfl)) (fun _ _ _ h => h) (Or.inl ⟨by rfl, ?_⟩) hHeld ?_ ?_
                rotate_left
                ·rintro w' ⟨s0, s1, s2⟩
                 go_simp
                 with_reducible rfl
                rotate_left
                ·simp only [Act.put, sA, sZ, sS, i64_w, i32_w]
                 rfl
                refine one_ (i := 12) (N := some 100) (bl 32 8191) rfl rfl (one_of HT_.out (by kernel_rfl)) (by decide) (fun K hK => ?_)
                refine Kd.R_lit_step k28 _ 28 ?hg (N := 100) ?hd (xs := ([(⟨t120, t121, t122⟩ : Val)] : List (Val))) (inner := [.bool t120, .string t121, .int .i64 t122]) (ok := fun _ => True) (okp := fun _ => True) ?hr ?hp (fun _ hk => hk) trivial (Below.refl _ _) (Nat.le_refl _) (by simp) ?_; (case hd => rfl); (case hg => rfl); (case hr => first | (go_simp; done) | (go_simp; rfl)); (case hp => exact (Reps.c3 (show Kd.M k28 _ _ _ (⟨t120, t121, t122⟩ : Val) [.bool t120, .string t121, .int .i64 t122] from (k28_mkM _ _ _ (⟨t120, t121, t122⟩ : Val) )) (Reps.none _ _)))
                intro v128 w55 ho56 hb hg_ hnew_
                clear hg_ hnew_
                (first | rw [← Ny127.out] at ho56 | (simp only [Int.reduceToNat] at ho56; rw [← Ny127.out] at ho56))
                replace HO_7 := am (Kd.N_elder' (by (with_reducible repeat (first | apply Kd.N_alloc | apply Kd.N_drewN | apply Kd.N_drew)); exact HO_7.out) (Kd.R_base ho56) hb)
                replace HO_8 := am (Kd.N_elder' (by (with_reducible repeat (first | apply Kd.N_alloc | apply Kd.N_drewN | apply Kd.N_drew)); exact HO_8.out) (Kd.R_base ho56) hb)
                have HO129 := am (Kd.R_lower (Kd.R_newB ho56 (g := gb123) (o := .cells #[.bool t120, .string t121, .int .i64 t122] 28 (0, 0)) (pB BK123.out)) (below_size (pL HB.out)))
                replace BK123 := am (bb_ BK123.out hb)
                replace HB := am (bs_ HB.out hb)
                clear hb ho56
                obtain ⟨Ao57, co57, eo57⟩ := Kd.R_slice HO129.out
                (first | subst eo57 | (injection eo57 with f1_ f2_ f3_; have f4_ := f1_.symm; have f5_ := f3_.symm; clear f1_ f2_ f3_; subst f4_; subst f5_))
                refine hK.out _ _ ⟨(blk_cell BK123.out 0).trans rfl, (blk_cell BK123.out 1).trans rfl, (blk_cell BK123.out 2).trans rfl⟩ (fun hHeld => ?_)
                clear hK K
                refine norm_ (a' := ?_) ?_ ?_
                rotate_left
                ·show Act.put _ (some 100) _ = _
                 simp only [Act.put, sA, sZ, sS, i64_w, i32_w]
                 rfl
                refine one_ (i := 13) (N := some 101) (bl 32 16383) rfl rfl (one_of HT_.out (by kernel_rfl)) (by decide) (fun K hK => ?_)
                refine goes_ Try.func9 (by kernel_rfl) rfl #[.slice Ao54 t117.length co54, .string (⟨#[110, 111, 100, 101]⟩ : ByteArray), .slice Ao57 y127.length co57] (by rfl) rfl rfl (by (try simp only [List.map_toArray, List.map_cons, List.map_nil]); first | done | rfl | (simp only [List.length_drop, List.length_take]; rfl)) ?_
                with_reducible refine (facts_Has.calls _ _ t117 (⟨#[110, 111, 100, 101]⟩ : ByteArray) _ _ y127 true _ ?side1 ?side2 ?side3 ?side4 A45.out).mono ?_
                (case side1 => repeat (first | exact (Kd.N_reads' HO_8.out).2.2 | (with_reducible refine Kd.C_alloc ?_ _) | (with_reducible refine Kd.C_drewN ?_ _) | (with_reducible refine Kd.C_drew ?_)))
                (case side2 => exact (Kd.N_reads' HO_8.out).2.1)
                (case side3 => repeat (first | exact (Kd.R_reads' HO129.out).2.2 | (with_reducible refine Kd.C_alloc ?_ _) | (with_reducible refine Kd.C_drewN ?_ _) | (with_reducible refine Kd.C_drew ?_)))
                (case side4 => exact (Kd.R_reads' HO129.out).2.1)
                rintro e w58 ⟨rfl, hb⟩
                refine ⟨_, rfl, ?_⟩
                replace HO_7 := am (Kd.N_below (by (with_reducible repeat (first | apply Kd.N_alloc | apply Kd.N_drewN | apply Kd.N_drew)); exact HO_7.out) hb)
                replace HO_8 := am (Kd.N_below (by (with_reducible repeat (first | apply Kd.N_alloc | apply Kd.N_drewN | apply Kd.N_drew)); exact HO_8.out) hb)
                replace HO129 := am (Rb_ HO129.out hb)
                replace BK123 := am (bb_ BK123.out hb)
                replace HB := am (bs_ HB.out hb)
                (try clear hb)
                (try clear hb2)
                (try clear hk)
                (try clear hi)
                refine hK.out _ _ ⟨(blk_cell BK123.out 0).trans rfl, (blk_cell BK123.out 1).trans rfl, (blk_cell BK123.out 2).trans rfl⟩ (fun hHeld => ?_)
                clear hK K
                refine norm_ (a' := ?_) ?_ ?_
                rotate_left
                ·show Act.put _ (some 101) _ = _
                 simp only [Act.put, sA, sZ, sS, i64_w, i32_w]
                 rfl
                refine pure_ (i := 14) (N := some 102) (v := ?_) (a' := ?_) (bl 32 32767) rfl rfl (any_of HT_.out (by kernel_rfl)) (fun _ _ _ h => h) (Or.inl ⟨by rfl, ?_⟩) ?_ ?_
                rotate_left
                ·intro w'
                 go_simp
                 with_reducible rfl
                rotate_left
                ·simp only [Act.put, sA, sZ, sS, i64_w, i32_w]
                 rfl
                refine pure_ (i := 15) (N := some 103) (v := ?_) (a' := ?_) (bl 32 65535) rfl rfl (any_of HT_.out (by kernel_rfl)) (fun _ _ _ h => h) (Or.inl ⟨by rfl, ?_⟩) ?_ ?_
                rotate_left
                ·intro w'
                 go_simp
                 with_reducible rfl
                rotate_left
                ·simp only [Act.put, sA, sZ, sS, i64_w, i32_w]
                 rfl
                refine pure_ (i := 16) (N := some 104) (v := ?_) (a' := ?_) (bl 32 131071) rfl rfl (any_of HT_.out (by kernel_rfl)) (fun _ _ _ h => h) (Or.inl ⟨by rfl, ?_⟩) ?_ ?_
                rotate_left
                ·intro w'
                 go_simp
                 with_reducible rfl
                rotate_left
                ·simp only [Act.put, sA, sZ, sS, i64_w, i32_w]
                 rfl
                refine pure_ (i := 18) (N := some 106) (v := ?_) (a' := ?_) (bl 32 393215) rfl rfl (any_of HT_.out (by kernel_rfl)) (fun _ _ _ h => h) (Or.inl ⟨by rfl, ?_⟩) ?_ ?_
                rotate_left
                ·intro w'
                 go_simp
                 with_reducible rfl
                rotate_left
                ·simp only [Act.put, sA, sZ, sS, i64_w, i32_w]
                 rfl
                refine take_ (i := 17) (N := some 105) (v := ?_) (a' := ?_) (bl 32 524287) rfl rfl (take_ofW HT_.out HW_.out (by kernel_rfl)) (fun _ _ _ h => h) (Or.inl ⟨by rfl, ?_⟩) hHeld ?_ ?_
                rotate_left
                ·rintro w' ⟨s0, s1, s2⟩
                 go_simp
                 with_reducible rfl
                rotate_left
                ·simp only [Act.put, sA, sZ, sS, i64_w, i32_w]
                 rfl
                refine one_ (i := 19) (N := some 107) (bl 32 1048575) rfl rfl (one_of HT_.out (by kernel_rfl)) (by decide) (fun K hK => ?_)
                refine goes_ Try.func15 (by kernel_rfl) rfl #[.string a1] (by rfl) rfl rfl (by (try simp only [List.map_toArray, List.map_cons, List.map_nil]); first | done | rfl | (simp only [List.length_drop, List.length_take]; rfl)) ?_
                with_reducible refine (lambrequinlaw21_sym.calls a1 t131 t132 t133 _ A47.out).mono ?_
                rintro e w59 ⟨rfl, hb⟩
                refine ⟨_, rfl, ?_⟩
                replace HO_7 := am (Kd.N_below (by (with_reducible repeat (first | apply Kd.N_alloc | apply Kd.N_drewN | apply Kd.N_drew)); exact HO_7.out) hb)
                replace HO_8 := am (Kd.N_below (by (with_reducible repeat (first | apply Kd.N_alloc | apply Kd.N_drewN | apply Kd.N_drew)); exact HO_8.out) hb)
                replace HO129 := am (Rb_ HO129.out hb)
                replace BK123 := am (bb_ BK123.out hb)
                replace HB := am (bs_ HB.out hb)
                (try clear hb)
                (try clear hb2)
                (try clear hk)
                (try clear hi)
                refine hK.out _ _ ⟨(blk_cell BK123.out 0).trans rfl, (blk_cell BK123.out 1).trans rfl, (blk_cell BK123.out 2).trans rfl⟩ (fun hHeld => ?_)
                clear hK K
                refine norm_ (a' := ?_) ?_ ?_
                rotate_left
                ·show Act.put _ (some 107) _ = _
                 simp only [Act.put, sA, sZ, sS, i64_w, i32_w]
                 rfl
                refine one_ (i := 20) (N := some 108) (bl 32 2097151) rfl rfl (one_of HT_.out (by kernel_rfl)) (by decide) (fun K hK => ?_)
                refine Kd.R_lit_step k28 _ 28 ?hg (N := 108) ?hd (xs := ([(⟨t120, t121, t122⟩ : Val), (⟨t131, t132, t133⟩ : Val)] : List (Val))) (inner := [.bool t120, .string t121, .int .i64 t122, .bool t131, .string t132, .int .i64 t133]) (ok := fun _ => True) (okp := fun _ => True) ?hr ?hp (fun _ hk => hk) trivial (Below.refl _ _) (Nat.le_refl _) (by simp) ?_; (case hd => rfl); (case hg => rfl); (case hr => first | (go_simp; done) | (go_simp; rfl)); (case hp => exact (Reps.c3 (show Kd.M k28 _ _ _ (⟨t120, t121, t122⟩ : Val) [.bool t120, .string t121, .int .i64 t122] from (k28_mkM _ _ _ (⟨t120, t121, t122⟩ : Val) )) (Reps.c3 (show Kd.M k28 _ _ _ (⟨t131, t132, t133⟩ : Val) [.bool t131, .string t132, .int .i64 t133] from (k28_mkM _ _ _ (⟨t131, t132, t133⟩ : Val) )) (Reps.none _ _))))
                intro v135 w60 ho61 hb hg_ hnew_
                clear hg_ hnew_
                (first | rw [← Ny134.out] at ho61 | (simp only [Int.reduceToNat] at ho61; rw [← Ny134.out] at ho61))
                replace HO_7 := am (Kd.N_elder' (by (with_reducible repeat (first | apply Kd.N_alloc | apply Kd.N_drewN | apply Kd.N_drew)); exact HO_7.out) (Kd.R_base ho61) hb)
                replace HO_8 := am (Kd.N_elder' (by (with_reducible repeat (first | apply Kd.N_alloc | apply Kd.N_drewN | apply Kd.N_drew)); exact HO_8.out) (Kd.R_base ho61) hb)
                have HO136 := am (Kd.R_lower (Kd.R_newB (Kd.R_new' ho61 (Kd.R_lt (pR HO129.out))) (g := gb123) (o := .cells #[.bool t120, .string t121, .int .i64 t122] 28 (0, 0)) (pB BK123.out)) (below_size (pL HB.out)))
                replace HO129 := am (Kd.R_elder' (pR HO129.out) (Kd.R_base ho61) hb)
                replace BK123 := am (bb_ BK123.out hb)
                replace HB := am (bs_ HB.out hb)
                clear hb ho61
                obtain ⟨Ao62, co62, eo62⟩ := Kd.R_slice HO136.out
                (first | subst eo62 | (injection eo62 with f1_ f2_ f3_; have f4_ := f1_.symm; have f5_ := f3_.symm; clear f1_ f2_ f3_; subst f4_; subst f5_))
                refine hK.out _ _ ⟨(blk_cell BK123.out 0).trans rfl, (blk_cell BK123.out 1).trans rfl, (blk_cell BK123.out 2).trans rfl⟩ (fun hHeld => ?_)
                clear hK K
                refine norm_ (a' := ?_) ?_ ?_
                rotate_left
                ·show Act.put _ (some 108) _ = _
                 simp only [Act.put, sA, sZ, sS, i64_w, i32_w]
                 rfl
                refine one_ (i := 21) (N := some 109) (bl 32 4194303) rfl rfl (one_of HT_.out (by kernel_rfl)) (by decide) (fun K hK => ?_)
                refine goes_ Try.func9 (by kernel_rfl) rfl #[.slice Ao54 t117.length co54, .string (⟨#[117, 115, 101]⟩ : ByteArray), .slice Ao62 y134.length co62] (by rfl) rfl rfl (by (try simp only [List.map_toArray, List.map_cons, List.map_nil]); first | done | rfl | (simp only [List.length_drop, List.length_take]; rfl)) ?_
                with_reducible refine (facts_Has.calls _ _ t117 (⟨#[117, 115, 101]⟩ : ByteArray) _ _ y134 true _ ?side1 ?side2 ?side3 ?side4 A48.out).mono ?_
                (case side1 => repeat (first | exact (Kd.N_reads' HO_8.out).2.2 | (with_reducible refine Kd.C_alloc ?_ _) | (with_reducible refine Kd.C_drewN ?_ _) | (with_reducible refine Kd.C_drew ?_)))
                (case side2 => exact (Kd.N_reads' HO_8.out).2.1)
                (case side3 => repeat (first | exact (Kd.R_reads' HO136.out).2.2 | (with_reducible refine Kd.C_alloc ?_ _) | (with_reducible refine Kd.C_drewN ?_ _) | (with_reducible refine Kd.C_drew ?_)))
                (case side4 => exact (Kd.R_reads' HO136.out).2.1)
                rintro e w63 ⟨rfl, hb⟩
                refine ⟨_, rfl, ?_⟩
                replace HO_7 := am (Kd.N_below (by (with_reducible repeat (first | apply Kd.N_alloc | apply Kd.N_drewN | apply Kd.N_drew)); exact HO_7.out) hb)
                replace HO_8 := am (Kd.N_below (by (with_reducible repeat (first | apply Kd.N_alloc | apply Kd.N_drewN | apply Kd.N_drew)); exact HO_8.out) hb)
                replace HO129 := am (Rb_ HO129.out hb)
                replace HO136 := am (Rb_ HO136.out hb)
                replace BK123 := am (bb_ BK123.out hb)
                replace HB := am (bs_ HB.out hb)
                (try clear hb)
                (try clear hb2)
                (try clear hk)
                (try clear hi)
                refine hK.out _ _ ⟨(blk_cell BK123.out 0).trans rfl, (blk_cell BK123.out 1).trans rfl, (blk_cell BK123.out 2).trans rfl⟩ (fun hHeld => ?_)
                clear hK K
                refine norm_ (a' := ?_) ?_ ?_
                rotate_left
                ·show Act.put _ (some 109) _ = _
                 simp only [Act.put, sA, sZ, sS, i64_w, i32_w]
                 rfl
                refine pure_ (i := 22) (N := some 110) (v := ?_) (a' := ?_) (bl 32 8388607) rfl rfl (any_of HT_.out (by kernel_rfl)) (fun _ _ _ h => h) (Or.inl ⟨by rfl, ?_⟩) ?_ ?_
                rotate_left
                ·intro w'
                 go_simp
                 with_reducible rfl
                rotate_left
                ·simp only [Act.put, sA, sZ, sS, i64_w, i32_w]
                 rfl
                refine pure_ (i := 23) (N := some 111) (v := ?_) (a' := ?_) (bl 32 16777215) rfl rfl (any_of HT_.out (by kernel_rfl)) (fun _ _ _ h => h) (Or.inl ⟨by rfl, ?_⟩) ?_ ?_
                rotate_left
                ·intro w'
                 go_simp
                 with_reducible rfl
                rotate_left
                ·simp only [Act.put, sA, sZ, sS, i64_w, i32_w]
                 rfl
                refine pure_ (i := 24) (N := some 112) (v := ?_) (a' := ?_) (bl 32 33554431) rfl rfl (any_of HT_.out (by kernel_rfl)) (fun _ _ _ h => h) (Or.inl ⟨by rfl, ?_⟩) ?_ ?_
                rotate_left
                ·intro w'
                 go_simp
                 with_reducible rfl
                rotate_left
                ·simp only [Act.put, sA, sZ, sS, i64_w, i32_w]
                 rfl
                refine pure_ (i := 26) (N := some 114) (v := ?_) (a' := ?_) (bl 32 100663295) rfl rfl (any_of HT_.out (by kernel_rfl)) (fun _ _ _ h => h) (Or.inl ⟨by rfl, ?_⟩) ?_ ?_
                rotate_left
                ·intro w'
                 go_simp
                 with_reducible rfl
                rotate_left
                ·simp only [Act.put, sA, sZ, sS, i64_w, i32_w]
                 rfl
                refine take_ (i := 25) (N := some 113) (v := ?_) (a' := ?_) (bl 32 134217727) rfl rfl (take_ofW HT_.out HW_.out (by kernel_rfl)) (fun _ _ _ h => h) (Or.inl ⟨by rfl, ?_⟩) hHeld ?_ ?_
                rotate_left
                ·rintro w' ⟨s0, s1, s2⟩
                 go_simp
                 with_reducible rfl
                rotate_left
                ·simp only [Act.put, sA, sZ, sS, i64_w, i32_w]
                 rfl
                refine one_ (i := 27) (N := some 115) (bl 32 268435455) rfl rfl (one_of HT_.out (by kernel_rfl)) (by decide) (fun K hK => ?_)
                refine goes_ Try.func15 (by kernel_rfl) rfl #[.string a1] (by rfl) rfl rfl (by (try simp only [List.map_toArray, List.map_cons, List.map_nil]); first | done | rfl | (simp only [List.length_drop, List.length_take]; rfl)) ?_
                with_reducible refine (lambrequinlaw21_sym.calls a1 t138 t139 t140 _ A50.out).mono ?_
                rintro e w64 ⟨rfl, hb⟩
                refine ⟨_, rfl, ?_⟩
                replace HO_7 := am (Kd.N_below (by (with_reducible repeat (first | apply Kd.N_alloc | apply Kd.N_drewN | apply Kd.N_drew)); exact HO_7.out) hb)
                replace HO_8 := am (Kd.N_below (by (with_reducible repeat (first | apply Kd.N_alloc | apply Kd.N_drewN | apply Kd.N_drew)); exact HO_8.out) hb)
                replace HO129 := am (Rb_ HO129.out hb)
                replace HO136 := am (Rb_ HO136.out hb)
                replace BK123 := am (bb_ BK123.out hb)
                replace HB := am (bs_ HB.out hb)
                (try clear hb)
                (try clear hb2)
                (try clear hk)
                (try clear hi)
                refine hK.out _ _ ⟨(blk_cell BK123.out 0).trans rfl, (blk_cell BK123.out 1).trans rfl, (blk_cell BK123.out 2).trans rfl⟩ (fun hHeld => ?_)
                clear hK K
                refine norm_ (a' := ?_) ?_ ?_
                rotate_left
                ·show Act.put _ (some 115) _ = _
                 simp only [Act.put, sA, sZ, sS, i64_w, i32_w]
                 rfl
                refine one_ (i := 28) (N := some 116) (bl 32 536870911) rfl rfl (one_of HT_.out (by kernel_rfl)) (by decide) (fun K hK => ?_)
                refine Kd.R_lit_step k28 _ 28 ?hg (N := 116) ?hd (xs := ([(⟨t120, t121, t122⟩ : Val), (⟨t138, t139, t140⟩ : Val)] : List (Val))) (inner := [.bool t120, .string t121, .int .i64 t122, .bool t138, .string t139, .int .i64 t140]) (ok := fun _ => True) (okp := fun _ => True) ?hr ?hp (fun _ hk => hk) trivial (Below.refl _ _) (Nat.le_refl _) (by simp) ?_; (case hd => rfl); (case hg => rfl); (case hr => first | (go_simp; done) | (go_simp; rfl)); (case hp => exact (Reps.c3 (show Kd.M k28 _ _ _ (⟨t120, t121, t122⟩ : Val) [.bool t120, .string t121, .int .i64 t122] from (k28_mkM _ _ _ (⟨t120, t121, t122⟩ : Val) )) (Reps.c3 (show Kd.M k28 _ _ _ (⟨t138, t139, t140⟩ : Val) [.bool t138, .string t139, .int .i64 t140] from (k28_mkM _ _ _ (⟨t138, t139, t140⟩ : Val) )) (Reps.none _ _))))
                intro v142 w65 ho66 hb hg_ hnew_
                clear hg_ hnew_
                (first | rw [← Ny141.out] at ho66 | (simp only [Int.reduceToNat] at ho66; rw [← Ny141.out] at ho66))
                replace HO_7 := am (Kd.N_elder' (by (with_reducible repeat (first | apply Kd.N_alloc | apply Kd.N_drewN | apply Kd.N_drew)); exact HO_7.out) (Kd.R_base ho66) hb)
                replace HO_8 := am (Kd.N_elder' (by (with_reducible repeat (first | apply Kd.N_alloc | apply Kd.N_drewN | apply Kd.N_drew)); exact HO_8.out) (Kd.R_base ho66) hb)
                have HO143 := am (Kd.R_lower (Kd.R_newB (Kd.R_new' (Kd.R_new' ho66 (Kd.R_lt (pR HO129.out))) (Kd.R_lt (pR HO136.out))) (g := gb123) (o := .cells #[.bool t120, .string t121, .int .i64 t122] 28 (0, 0)) (pB BK123.out)) (below_size (pL HB.out)))
                replace HO129 := am (Kd.R_elder' (pR HO129.out) (Kd.R_base ho66) hb)
                replace HO136 := am (Kd.R_elder' (pR HO136.out) (Kd.R_base ho66) hb)
                replace BK123 := am (bb_ BK123.out hb)
                replace HB := am (bs_ HB.out hb)
                clear hb ho66
                obtain ⟨Ao67, co67, eo67⟩ := Kd.R_slice HO143.out
                (first | subst eo67 | (injection eo67 with f1_ f2_ f3_; have f4_ := f1_.symm; have f5_ := f3_.symm; clear f1_ f2_ f3_; subst f4_; subst f5_))
                refine hK.out _ _ ⟨(blk_cell BK123.out 0).trans rfl, (blk_cell BK123.out 1).trans rfl, (blk_cell BK123.out 2).trans rfl⟩ (fun hHeld => ?_)
                clear hK K
                refine norm_ (a' := ?_) ?_ ?_
                rotate_left
                ·show Act.put _ (some 116) _ = _
                 simp only [Act.put, sA, sZ, sS, i64_w, i32_w]
                 rfl
                refine one_ (i := 29) (N := some 117) (bl 32 1073741823) rfl rfl (one_of HT_.out (by kernel_rfl)) (by decide) (fun K hK => ?_)
                refine goes_ Try.func9 (by kernel_rfl) rfl #[.slice Ao54 t117.length co54, .string (⟨#[115, 105, 110, 107]⟩ : ByteArray), .slice Ao67 y141.length co67] (by rfl) rfl rfl (by (try simp only [List.map_toArray, List.map_cons, List.map_nil]); first | done | rfl | (simp only [List.length_drop, List.length_take]; rfl)) ?_
                with_reducible refine (facts_Has.calls _ _ t117 (⟨#[115, 105, 110, 107]⟩ : ByteArray) _ _ y141 t144 _ ?side1 ?side2 ?side3 ?side4 A51.out).mono ?_
                (case side1 => repeat (first | exact (Kd.N_reads' HO_8.out).2.2 | (with_reducible refine Kd.C_alloc ?_ _) | (with_reducible refine Kd.C_drewN ?_ _) | (with_reducible refine Kd.C_drew ?_)))
                (case side2 => exact (Kd.N_reads' HO_8.out).2.1)
                (case side3 => repeat (first | exact (Kd.R_reads' HO143.out).2.2 | (with_reducible refine Kd.C_alloc ?_ _) | (with_reducible refine Kd.C_drewN ?_ _) | (with_reducible refine Kd.C_drew ?_)))
                (case side4 => exact (Kd.R_reads' HO143.out).2.1)
                rintro e w68 ⟨rfl, hb⟩
                refine ⟨_, rfl, ?_⟩
                replace HO_7 := am (Kd.N_below (by (with_reducible repeat (first | apply Kd.N_alloc | apply Kd.N_drewN | apply Kd.N_drew)); exact HO_7.out) hb)
                replace HO_8 := am (Kd.N_below (by (with_reducible repeat (first | apply Kd.N_alloc | apply Kd.N_drewN | apply Kd.N_drew)); exact HO_8.out) hb)
                replace HO129 := am (Rb_ HO129.out hb)
                replace HO136 := am (Rb_ HO136.out hb)
                replace HO143 := am (Rb_ HO143.out hb)
                replace BK123 := am (bb_ BK123.out hb)
                replace HB := am (bs_ HB.out hb)
                (try clear hb)
                (try clear hb2)
                (try clear hk)
                (try clear hi)
                refine hK.out _ _ ⟨(blk_cell BK123.out 0).trans rfl, (blk_cell BK123.out 1).trans rfl, (blk_cell BK123.out 2).trans rfl⟩ (fun hHeld => ?_)
                clear hK K
                refine norm_ (a' := ?_) ?_ ?_
                rotate_left
                ·show Act.put _ (some 117) _ = _
                 simp only [Act.put, sA, sZ, sS, i64_w, i32_w]
                 rfl
                refine pure_ (i := 30) (N := some 118) (v := ?_) (a' := ?_) (bl 32 2147483647) rfl rfl (any_of HT_.out (by kernel_rfl)) (fun _ _ _ h => h) (Or.inl ⟨by rfl, ?_⟩) ?_ ?_
                rotate_left
                ·intro w'
                 go_simp
                 with_reducible rfl
                rotate_left
                ·simp only [Act.put, sA, sZ, sS, i64_w, i32_w]
                 rfl
                refine pure_ (i := 31) (N := some 4) (v := ?_) (a' := ?_) (bl 32 4294967295) rfl rfl (any_of HT_.out (by kernel_rfl)) (fun _ _ _ h => h) (Or.inl ⟨by rfl, ?_⟩) ?_ ?_
                rotate_left
                ·intro w'
                 go_simp
                 with_reducible rfl
                rotate_left
                ·simp only [Act.put, sA, sZ, sS, i64_w, i32_w]
                 rfl
                refine done_ (done_of HT_.out (by kernel_rfl)) ?_
                try go_wp2
                go_ret
                exact ⟨by first | rfl | (simp [errW_none, errW_some] <;> rfl) | (simp [*, errW_none, errW_some] <;> rfl), pL HB.out⟩
               ·replace c49 := Bool.eq_false_iff.mpr c49
                subst c49
                have H1 : (some false) = some r := by rw [if_neg (show ¬ (false = true) by decide)] at H; exact H
                clear H
                have H := H1
                clear H1
                obtain rfl := Option.some.inj H
                obtain ⟨Ao69, co69, eo69⟩ := Kd.N_slice HO_7.out
                subst eo69
                try go_wp2
                replace HO_7 := am (Kd.N_drew HO_7.out)
                replace HO_8 := am (Kd.N_drew HO_8.out)
                replace BK123 := am (blk_drew BK123.out)
                replace HB := am (below_drew1 HB.out)
                obtain ⟨Ao71, co71, eo71⟩ := Kd.N_slice HO_8.out
                (first | subst eo71 | (injection eo71 with f1_ f2_ f3_; have f4_ := f1_.symm; have f5_ := f3_.symm; clear f1_ f2_ f3_; subst f4_; subst f5_))
                refine start_ (n := 32) (S := fun w' => w'.cell? ⟨gb123, 0, none⟩ = some (.bool t120) ∧ w'.cell? ⟨gb123, 1, none⟩ = some (.string t121) ∧ w'.cell? ⟨gb123, 2, none⟩ = some (.int .i64 t122)) (ds := []) (bl 32 0) (by kernel_rfl) rfl rfl ⟨(blk_cell BK123.out 0).trans rfl, (blk_cell BK123.out 1).trans rfl, (blk_cell BK123.out 2).trans rfl⟩ (fun hHeld => ?_); refine with_tabW lambrequinlaw21_FactsMore.tab17 lambrequinlaw21_FactsMore.bits17 (fun HT_ HW_ => ?_)
                generalize wr.drew = w70 at HO_7 HO_8 BK123 HB hHeld ⊢
                refine pure_ (i := 0) (N := some 88) (v := ?_) (a' := ?_) (bl 32 1) rfl rfl (any_of HT_.out (by kernel_rfl)) (fun _ _ _ h => h) (Or.inl ⟨by rfl, ?_⟩) ?_ ?_
                rotate_left
                ·intro w'
                 go_simp
                 with_reducible rfl
                rotate_left
                ·simp only [Act.put, sA, sZ, sS, i64_w, i32_w]
                 rfl
                refine pure_ (i := 1) (N := some 89) (v := ?_) (a' := ?_) (bl 32 3) rfl rfl (any_of HT_.out (by kernel_rfl)) (fun _ _ _ h => h) (Or.inl ⟨by rfl, ?_⟩) ?_ ?_
                rotate_left
                ·intro w'
                 go_simp
                 with_reducible rfl
                rotate_left
                ·simp only [Act.put, sA, sZ, sS, i64_w, i32_w]
                 rfl
                refine pure_ (i := 2) (N := some 90) (v := ?_) (a' := ?_) (bl 32 7) rfl rfl (any_of HT_.out (by kernel_rfl)) (fun _ _ _ h => h) (Or.inl ⟨by rfl, ?_⟩) ?_ ?_
                rotate_left
                ·intro w'
                 go_simp
                 with_reducible rfl
                rotate_left
                ·simp only [Act.put, sA, sZ, sS, i64_w, i32_w]
                 rfl
                refine pure_ (i := 3) (N := some 91) (v := ?_) (a' := ?_) (bl 32 15) rfl rfl (any_of HT_.out (by kernel_rfl)) (fun _ _ _ h => h) (Or.inl ⟨by rfl, ?_⟩) ?_ ?_
                rotate_left
                ·intro w'
                 go_simp
                 with_reducible rfl
                rotate_left
                ·simp only [Act.put, sA, sZ, sS, i64_w, i32_w]
                 rfl
                refine pure_ (i := 4) (N := some 92) (v := ?_) (a' := ?_) (bl 32 31) rfl rfl (any_of HT_.out (by kernel_rfl)) (fun _ _ _ h => h) (Or.inl ⟨by rfl, ?_⟩) ?_ ?_
                rotate_left
                ·intro w'
                 go_simp
                 with_reducible rfl
                rotate_left
                ·simp only [Act.put, sA, sZ, sS, i64_w, i32_w]
                 rfl
                refine pure_ (i := 5) (N := some 93) (v := ?_) (a' := ?_) (bl 32 63) rfl rfl (any_of HT_.out (by kernel_rfl)) (fun _ _ _ h => h) (Or.inl ⟨by rfl, ?_⟩) ?_ ?_
                rotate_left
                ·intro w'
                 go_simp
                 with_reducible rfl
                rotate_left
                ·simp only [Act.put, sA, sZ, sS, i64_w, i32_w]
                 rfl
                refine pure_ (i := 6) (N := some 94) (v := ?_) (a' := ?_) (bl 32 127) rfl rfl (any_of HT_.out (by kernel_rfl)) (fun _ _ _ h => h) (Or.inl ⟨by rfl, ?_⟩) ?_ ?_
                rotate_left
                ·intro w'
                 go_simp
                 with_reducible rfl
                rotate_left
                ·simp only [Act.put, sA, sZ, sS, i64_w, i32_w]
                 rfl
                refine pure_ (i := 7) (N := some 95) (v := ?_) (a' := ?_) (bl 32 255) rfl rfl (any_of HT_.out (by kernel_rfl)) (fun _ _ _ h => h) (Or.inl ⟨by rfl, ?_⟩) ?_ ?_
                rotate_left
                ·intro w'
                 go_simp
                 with_reducible rfl
                rotate_left
                ·simp only [Act.put, sA, sZ, sS, i64_w, i32_w]
                 rfl
                refine pure_ (i := 8) (N := some 96) (v := ?_) (a' := ?_) (bl 32 511) rfl rfl (any_of HT_.out (by kernel_rfl)) (fun _ _ _ h => h) (Or.inl ⟨by rfl, ?_⟩) ?_ ?_
                rotate_left
                ·intro w'
                 go_simp
                 with_reducible rfl
                rotate_left
                ·simp only [Act.put, sA, sZ, sS, i64_w, i32_w]
                 rfl
                refine pure_ (i := 9) (N := some 97) (v := ?_) (a' := ?_) (bl 32 1023) rfl rfl (any_of HT_.out (by kernel_rfl)) (fun _ _ _ h => h) (Or.inl ⟨by rfl, ?_⟩) ?_ ?_
                rotate_left
                ·intro w'
                 go_simp
                 with_reducible rfl
                rotate_left
                ·simp only [Act.put, sA, sZ, sS, i64_w, i32_w]
                 rfl
                refine pure_ (i := 10) (N := some 98) (v := ?_) (a' := ?_) (bl 32 2047) rfl rfl (any_of HT_.out (by kernel_rfl)) (fun _ _ _ h => h) (Or.inl ⟨by rfl, ?_⟩) ?_ ?_
                rotate_left
                ·intro w'
                 go_simp
                 with_reducible rfl
                rotate_left
                ·simp only [Act.put, sA, sZ, sS, i64_w, i32_w]
                 rfl
                refine take_ (i := 11) (N := some 99) (v := ?_) (a' := ?_) (bl 32 4095) rfl rfl (take_ofW HT_.out HW_.out (by kernel_rfl)) (fun _ _ _ h => h) (Or.inl ⟨by rfl, ?_⟩) hHeld ?_ ?_
                rotate_left
                ·rintro w' ⟨s0, s1, s2⟩
                 go_simp
                 with_reducible rfl
                rotate_left
                ·simp only [Act.put, sA, sZ, sS, i64_w, i32_w]
                 rfl
                refine one_ (i := 12) (N := some 100) (bl 32 8191) rfl rfl (one_of HT_.out (by kernel_rfl)) (by decide) (fun K hK => ?_)
                refine Kd.R_lit_step k28 _ 28 ?hg (N := 100) ?hd (xs := ([(⟨t120, t121, t122⟩ : Val)] : List (Val))) (inner := [.bool t120, .string t121, .int .i64 t122]) (ok := fun _ => True) (okp := fun _ => True) ?hr ?hp (fun _ hk => hk) trivial (Below.refl _ _) (Nat.le_refl _) (by simp) ?_; (case hd => rfl); (case hg => rfl); (case hr => first | (go_simp; done) | (go_simp; rfl)); (case hp => exact (Reps.c3 (show Kd.M k28 _ _ _ (⟨t120, t121, t122⟩ : Val) [.bool t120, .string t121, .int .i64 t122] from (k28_mkM _ _ _ (⟨t120, t121, t122⟩ : Val) )) (Reps.none _ _)))
                intro v128 w72 ho73 hb hg_ hnew_
                clear hg_ hnew_
                (first | rw [← Ny127.out] at ho73 | (simp only [Int.reduceToNat] at ho73; rw [← Ny127.out] at ho73))
                replace HO_7 := am (Kd.N_elder' (by (with_reducible repeat (first | apply Kd.N_alloc | apply Kd.N_drewN | apply Kd.N_drew)); exact HO_7.out) (Kd.R_base ho73) hb)
                replace HO_8 := am (Kd.N_elder' (by (with_reducible repeat (first | apply Kd.N_alloc | apply Kd.N_drewN | apply Kd.N_drew)); exact HO_8.out) (Kd.R_base ho73) hb)
                have HO129 := am (Kd.R_lower (Kd.R_newB ho73 (g := gb123) (o := .cells #[.bool t120, .string t121, .int .i64 t122] 28 (0, 0)) (pB BK123.out)) (below_size (pL HB.out)))
                replace BK123 := am (bb_ BK123.out hb)
                replace HB := am (bs_ HB.out hb)
                clear hb ho73
                obtain ⟨Ao74, co74, eo74⟩ := Kd.R_slice HO129.out
                (first | subst eo74 | (injection eo74 with f1_ f2_ f3_; have f4_ := f1_.symm; have f5_ := f3_.symm; clear f1_ f2_ f3_; subst f4_; subst f5_))
                refine hK.out _ _ ⟨(blk_cell BK123.out 0).trans rfl, (blk_cell BK123.out 1).trans rfl, (blk_cell BK123.out 2).trans rfl⟩ (fun hHeld => ?_)
                clear hK K
                refine norm_ (a' := ?_) ?_ ?_
                rotate_left
                ·show Act.put _ (some 100) _ = _
                 simp only [Act.put, sA, sZ, sS, i64_w, i32_w]
                 rfl
                refine one_ (i := 13) (N := some 101) (bl 32 16383) rfl rfl (one_of HT_.out (by kernel_rfl)) (by decide) (fun K hK => ?_)
                refine goes_ Try.func9 (by kernel_rfl) rfl #[.slice Ao71 t117.length co71, .string (⟨#[110, 111, 100, 101]⟩ : ByteArray), .slice Ao74 y127.length co74] (by rfl) rfl rfl (by (try simp only [List.map_toArray, List.map_cons, List.map_nil]); first | done | rfl | (simp only [List.length_drop, List.length_take]; rfl)) ?_
                with_reducible refine (facts_Has.calls _ _ t117 (⟨#[110, 111, 100, 101]⟩ : ByteArray) _ _ y127 true _ ?side1 ?side2 ?side3 ?side4 A45.out).mono ?_
                (case side1 => repeat (first | exact (Kd.N_reads' HO_8.out).2.2 | (with_reducible refine Kd.C_alloc ?_ _) | (with_reducible refine Kd.C_drewN ?_ _) | (with_reducible refine Kd.C_drew ?_)))
                (case side2 => exact (Kd.N_reads' HO_8.out).2.1)
                (case side3 => repeat (first | exact (Kd.R_reads' HO129.out).2.2 | (with_reducible refine Kd.C_alloc ?_ _) | (with_reducible refine Kd.C_drewN ?_ _) | (with_reducible refine Kd.C_drew ?_)))
                (case side4 => exact (Kd.R_reads' HO129.out).2.1)
                rintro e w75 ⟨rfl, hb⟩
                refine ⟨_, rfl, ?_⟩
                replace HO_7 := am (Kd.N_below (by (with_reducible repeat (first | apply Kd.N_alloc | apply Kd.N_drewN | apply Kd.N_drew)); exact HO_7.out) hb)
                replace HO_8 := am (Kd.N_below (by (with_reducible repeat (first | apply Kd.N_alloc | apply Kd.N_drewN | apply Kd.N_drew)); exact HO_8.out) hb)
                replace HO129 := am (Rb_ HO129.out hb)
                replace BK123 := am (bb_ BK123.out hb)
                replace HB := am (bs_ HB.out hb)
                (try clear hb)
                (try clear hb2)
                (try clear hk)
                (try clear hi)
                refine hK.out _ _ ⟨(blk_cell BK123.out 0).trans rfl, (blk_cell BK123.out 1).trans rfl, (blk_cell BK123.out 2).trans rfl⟩ (fun hHeld => ?_)
                clear hK K
                refine norm_ (a' := ?_) ?_ ?_
                rotate_left
                ·show Act.put _ (some 101) _ = _
                 simp only [Act.put, sA, sZ, sS, i64_w, i32_w]
                 rfl
                refine pure_ (i := 14) (N := some 102) (v := ?_) (a' := ?_) (bl 32 32767) rfl rfl (any_of HT_.out (by kernel_rfl)) (fun _ _ _ h => h) (Or.inl ⟨by rfl, ?_⟩) ?_ ?_
                rotate_left
                ·intro w'
                 go_simp
                 with_reducible rfl
                rotate_left
                ·simp only [Act.put, sA, sZ, sS, i64_w, i32_w]
                 rfl
                refine pure_ (i := 15) (N := some 103) (v := ?_) (a' := ?_) (bl 32 65535) rfl rfl (any_of HT_.out (by kernel_rfl)) (fun _ _ _ h => h) (Or.inl ⟨by rfl, ?_⟩) ?_ ?_
                rotate_left
                ·intro w'
                 go_simp
                 with_reducible rfl
                rotate_left
                ·simp only [Act.put, sA, sZ, sS, i64_w, i32_w]
                 rfl
                refine pure_ (i := 16) (N := some 104) (v := ?_) (a' := ?_) (bl 32 131071) rfl rfl (any_of HT_.out (by kernel_rfl)) (fun _ _ _ h => h) (Or.inl ⟨by rfl, ?_⟩) ?_ ?_
                rotate_left
                ·intro w'
                 go_simp
                 with_reducible rfl
                rotate_left
                ·simp only [Act.put, sA, sZ, sS, i64_w, i32_w]
                 rfl
                refine pure_ (i := 18) (N := some 106) (v := ?_) (a' := ?_) (bl 32 393215) rfl rfl (any_of HT_.out (by kernel_rfl)) (fun _ _ _ h => h) (Or.inl ⟨by rfl, ?_⟩) ?_ ?_
                rotate_left
                ·intro w'
                 go_simp
                 with_reducible rfl
                rotate_left
                ·simp only [Act.put, sA, sZ, sS, i64_w, i32_w]
                 rfl
                refine take_ (i := 17) (N := some 105) (v := ?_) (a' := ?_) (bl 32 524287) rfl rfl (take_ofW HT_.out HW_.out (by kernel_rfl)) (fun _ _ _ h => h) (Or.inl ⟨by rfl, ?_⟩) hHeld ?_ ?_
                rotate_left
                ·rintro w' ⟨s0, s1, s2⟩
                 go_simp
                 with_reducible rfl
                rotate_left
                ·simp only [Act.put, sA, sZ, sS, i64_w, i32_w]
                 rfl
                refine one_ (i := 19) (N := some 107) (bl 32 1048575) rfl rfl (one_of HT_.out (by kernel_rfl)) (by decide) (fun K hK => ?_)
                refine goes_ Try.func15 (by kernel_rfl) rfl #[.string a1] (by rfl) rfl rfl (by (try simp only [List.map_toArray, List.map_cons, List.map_nil]); first | done | rfl | (simp only [List.length_drop, List.length_take]; rfl)) ?_
                with_reducible refine (lambrequinlaw21_sym.calls a1 t131 t132 t133 _ A47.out).mono ?_
                rintro e w76 ⟨rfl, hb⟩
                refine ⟨_, rfl, ?_⟩
                replace HO_7 := am (Kd.N_below (by (with_reducible repeat (first | apply Kd.N_alloc | apply Kd.N_drewN | apply Kd.N_drew)); exact HO_7.out) hb)
                replace HO_8 := am (Kd.N_below (by (with_reducible repeat (first | apply Kd.N_alloc | apply Kd.N_drewN | apply Kd.N_drew)); exact HO_8.out) hb)
                replace HO129 := am (Rb_ HO129.out hb)
                replace BK123 := am (bb_ BK123.out hb)
                replace HB := am (bs_ HB.out hb)
                (try clear hb)
                (try clear hb2)
                (try clear hk)
                (try clear hi)
                refine hK.out _ _ ⟨(blk_cell BK123.out 0).trans rfl, (blk_cell BK123.out 1).trans rfl, (blk_cell BK123.out 2).trans rfl⟩ (fun hHeld => ?_)
                clear hK K
                refine norm_ (a' := ?_) ?_ ?_
                rotate_left
                ·show Act.put _ (some 107) _ = _
                 simp only [Act.put, sA, sZ, sS, i64_w, i32_w]
                 rfl
                refine one_ (i := 20) (N := some 108) (bl 32 2097151) rfl rfl (one_of HT_.out (by kernel_rfl)) (by decide) (fun K hK => ?_)
                refine Kd.R_lit_step k28 _ 28 ?hg (N := 108) ?hd (xs := ([(⟨t120, t121, t122⟩ : Val), (⟨t131, t132, t133⟩ : Val)] : List (Val))) (inner := [.bool t120, .string t121, .int .i64 t122, .bool t131, .string t132, .int .i64 t133]) (ok := fun _ => True) (okp := fun _ => True) ?hr ?hp (fun _ hk => hk) trivial (Below.refl _ _) (Nat.le_refl _) (by simp) ?_; (case hd => rfl); (case hg => rfl); (case hr => first | (go_simp; done) | (go_simp; rfl)); (case hp => exact (Reps.c3 (show Kd.M k28 _ _ _ (⟨t120, t121, t122⟩ : Val) [.bool t120, .string t121, .int .i64 t122] from (k28_mkM _ _ _ (⟨t120, t121, t122⟩ : Val) )) (Reps.c3 (show Kd.M k28 _ _ _ (⟨t131, t132, t133⟩ : Val) [.bool t131, .string t132, .int .i64 t133] from (k28_mkM _ _ _ (⟨t131, t132, t133⟩ : Val) )) (Reps.none _ _))))
                intro v135 w77 ho78 hb hg_ hnew_
                clear hg_ hnew_
                (first | rw [← Ny134.out] at ho78 | (simp only [Int.reduceToNat] at ho78; rw [← Ny134.out] at ho78))
                replace HO_7 := am (Kd.N_elder' (by (with_reducible repeat (first | apply Kd.N_alloc | apply Kd.N_drewN | apply Kd.N_drew)); exact HO_7.out) (Kd.R_base ho78) hb)
                replace HO_8 := am (Kd.N_elder' (by (with_reducible repeat (first | apply Kd.N_alloc | apply Kd.N_drewN | apply Kd.N_drew)); exact HO_8.out) (Kd.R_base ho78) hb)
                have HO136 := am (Kd.R_lower (Kd.R_newB (Kd.R_new' ho78 (Kd.R_lt (pR HO129.out))) (g := gb123) (o := .cells #[.bool t120, .string t121, .int .i64 t122] 28 (0, 0)) (pB BK123.out)) (below_size (pL HB.out)))
                replace HO129 := am (Kd.R_elder' (pR HO129.out) (Kd.R_base ho78) hb)
                replace BK123 := am (bb_ BK123.out hb)
                replace HB := am (bs_ HB.out hb)
                clear hb ho78
                obtain ⟨Ao79, co79, eo79⟩ := Kd.R_slice HO136.out
                (first | subst eo79 | (injection eo79 with f1_ f2_ f3_; have f4_ := f1_.symm; have f5_ := f3_.symm; clear f1_ f2_ f3_; subst f4_; subst f5_))
                refine hK.out _ _ ⟨(blk_cell BK123.out 0).trans rfl, (blk_cell BK123.out 1).trans rfl, (blk_cell BK123.out 2).trans rfl⟩ (fun hHeld => ?_)
                clear hK K
                refine norm_ (a' := ?_) ?_ ?_
                rotate_left
                ·show Act.put _ (some 108) _ = _
                 simp only [Act.put, sA, sZ, sS, i64_w, i32_w]
                 rfl
                refine one_ (i := 21) (N := some 109) (bl 32 4194303) rfl rfl (one_of HT_.out (by kernel_rfl)) (by decide) (fun K hK => ?_)
                refine goes_ Try.func9 (by kernel_rfl) rfl #[.slice Ao71 t117.length co71, .string (⟨#[117, 115, 101]⟩ : ByteArray), .slice Ao79 y134.length co79] (by rfl) rfl rfl (by (try simp only [List.map_toArray, List.map_cons, List.map_nil]); first | done | rfl | (simp only [List.length_drop, List.length_take]; rfl)) ?_
                with_reducible refine (facts_Has.calls _ _ t117 (⟨#[117, 115, 101]⟩ : ByteArray) _ _ y134 false _ ?side1 ?side2 ?side3 ?side4 A48.out).mono ?_
                (case side1 => repeat (first | exact (Kd.N_reads' HO_8.out).2.2 | (with_reducible refine Kd.C_alloc ?_ _) | (with_reducible refine Kd.C_drewN ?_ _) | (with_reducible refine Kd.C_drew ?_)))
                (case side2 => exact (Kd.N_reads' HO_8.out).2.1)
                (case side3 => repeat (first | exact (Kd.R_reads' HO136.out).2.2 | (with_reducible refine Kd.C_alloc ?_ _) | (with_reducible refine Kd.C_drewN ?_ _) | (with_reducible refine Kd.C_drew ?_)))
                (case side4 => exact (Kd.R_reads' HO136.out).2.1)
                rintro e w80 ⟨rfl, hb⟩
                refine ⟨_, rfl, ?_⟩
                replace HO_7 := am (Kd.N_below (by (with_reducible repeat (first | apply Kd.N_alloc | apply Kd.N_drewN | apply Kd.N_drew)); exact HO_7.out) hb)
                replace HO_8 := am (Kd.N_below (by (with_reducible repeat (first | apply Kd.N_alloc | apply Kd.N_drewN | apply Kd.N_drew)); exact HO_8.out) hb)
                replace HO129 := am (Rb_ HO129.out hb)
                replace HO136 := am (Rb_ HO136.out hb)
                replace BK123 := am (bb_ BK123.out hb)
                replace HB := am (bs_ HB.out hb)
                (try clear hb)
                (try clear hb2)
                (try clear hk)
                (try clear hi)
                refine hK.out _ _ ⟨(blk_cell BK123.out 0).trans rfl, (blk_cell BK123.out 1).trans rfl, (blk_cell BK123.out 2).trans rfl⟩ (fun hHeld => ?_)
                clear hK K
                refine norm_ (a' := ?_) ?_ ?_
                rotate_left
                ·show Act.put _ (some 109) _ = _
                 simp only [Act.put, sA, sZ, sS, i64_w, i32_w]
                 rfl
                refine pure_ (i := 22) (N := some 110) (v := ?_) (a' := ?_) (bl 32 8388607) rfl rfl (any_of HT_.out (by kernel_rfl)) (fun _ _ _ h => h) (Or.inl ⟨by rfl, ?_⟩) ?_ ?_
                rotate_left
                ·intro w'
                 go_simp
                 with_reducible rfl
                rotate_left
                ·simp only [Act.put, sA, sZ, sS, i64_w, i32_w]
                 rfl
                refine pure_ (i := 23) (N := some 111) (v := ?_) (a' := ?_) (bl 32 16777215) rfl rfl (any_of HT_.out (by kernel_rfl)) (fun _ _ _ h => h) (Or.inl ⟨by rfl, ?_⟩) ?_ ?_
                rotate_left
                ·intro w'
                 go_simp
                 with_reducible rfl
                rotate_left
                ·simp only [Act.put, sA, sZ, sS, i64_w, i32_w]
                 rfl
                refine pure_ (i := 24) (N := some 112) (v := undef) (a' := ?_) (bl 32 33554431) rfl rfl (any_of HT_.out (by kernel_rfl)) (fun _ _ _ h => h) (Or.inr ⟨by rfl, rfl⟩) ?_ ?_
                rotate_left
                ·simp only [Act.put, sA, sZ, sS, i64_w, i32_w]
                 rfl
                refine pure_ (i := 25) (N := some 113) (v := undef) (a' := ?_) (bl 32 67108863) rfl rfl (any_of HT_.out (by kernel_rfl)) (fun _ _ _ h => h) (Or.inr ⟨by rfl, rfl⟩) ?_ ?_
                rotate_left
                ·simp only [Act.put, sA, sZ, sS, i64_w, i32_w]
                 rfl
                refine pure_ (i := 26) (N := some 114) (v := undef) (a' := ?_) (bl 32 134217727) rfl rfl (any_of HT_.out (by kernel_rfl)) (fun _ _ _ h => h) (Or.inr ⟨by rfl, rfl⟩) ?_ ?_
                rotate_left
                ·simp only [Act.put, sA, sZ, sS, i64_w, i32_w]
                 rfl
                refine pure_ (i := 27) (N := some 115) (v := undef) (a' := ?_) (bl 32 268435455) rfl rfl (any_of HT_.out (by kernel_rfl)) (fun _ _ _ h => h) (Or.inr ⟨by rfl, rfl⟩) ?_ ?_
                rotate_left
                ·simp only [Act.put, sA, sZ, sS, i64_w, i32_w]
                 rfl
                refine pure_ (i := 28) (N := some 116) (v := undef) (a' := ?_) (bl 32 536870911) rfl rfl (any_of HT_.out (by kernel_rfl)) (fun _ _ _ h => h) (Or.inr ⟨by rfl, rfl⟩) ?_ ?_
                rotate_left
                ·simp only [Act.put, sA, sZ, sS, i64_w, i32_w]
                 rfl
                refine pure_ (i := 29) (N := some 117) (v := undef) (a' := ?_) (bl 32 1073741823) rfl rfl (any_of HT_.out (by kernel_rfl)) (fun _ _ _ h => h) (Or.inr ⟨by rfl, rfl⟩) ?_ ?_
                rotate_left
                ·simp only [Act.put, sA, sZ, sS, i64_w, i32_w]
                 rfl
                refine pure_ (i := 30) (N := some 118) (v := ?_) (a' := ?_) (bl 32 2147483647) rfl rfl (any_of HT_.out (by kernel_rfl)) (fun _ _ _ h => h) (Or.inl ⟨by rfl, ?_⟩) ?_ ?_
                rotate_left
                ·intro w'
                 go_simp
                 with_reducible rfl
                rotate_left
                ·simp only [Act.put, sA, sZ, sS, i64_w, i32_w]
                 rfl
                refine pure_ (i := 31) (N := some 4) (v := ?_) (a' := ?_) (bl 32 4294967295) rfl rfl (any_of HT_.out (by kernel_rfl)) (fun _ _ _ h => h) (Or.inl ⟨by rfl, ?_⟩) ?_ ?_
                rotate_left
                ·intro w'
                 go_simp
                 with_reducible rfl
                rotate_left
                ·simp only [Act.put, sA, sZ, sS, i64_w, i32_w]
                 rfl
                refine done_ (done_of HT_.out (by kernel_rfl)) ?_
                try go_wp2
                go_ret
                exact ⟨by first | rfl | (simp [errW_none, errW_some] <;> rfl) | (simp [*, errW_none, errW_some] <;> rfl), pL HB.out⟩
              ·replace c46 := Bool.eq_false_iff.mpr c46
               subst c46
               have H1 : (some false) = some r := by rw [if_neg (show ¬ (false = true) by decide)] at H; exact H
               clear H
               have H := H1
               clear H1
               obtain rfl := Option.some.inj H
               obtain ⟨Ao81, co81, eo81⟩ := Kd.N_slice HO_7.out
               subst eo81
               try go_wp2
               replace HO_7 := am (Kd.N_drew HO_7.out)
               replace HO_8 := am (Kd.N_drew HO_8.out)
               replace BK123 := am (blk_drew BK123.out)
               replace HB := am (below_drew1 HB.out)
               obtain ⟨Ao83, co83, eo83⟩ := Kd.N_slice HO_8.out
               (first | subst eo83 | (injection eo83 with f1_ f2_ f3_; have f4_ := f1_.symm; have f5_ := f3_.symm; clear f1_ f2_ f3_; subst f4_; subst f5_))
               refine start_ (n := 32) (S := fun w' => w'.cell? ⟨gb123, 0, none⟩ = some (.bool t120) ∧ w'.cell? ⟨gb123, 1, none⟩ = some (.string t121) ∧ w'.cell? ⟨gb123, 2, none⟩ = some (.int .i64 t122)) (ds := []) (bl 32 0) (by kernel_rfl) rfl rfl ⟨(blk_cell BK123.out 0).trans rfl, (blk_cell BK123.out 1).trans rfl, (blk_cell BK123.out 2).trans rfl⟩ (fun hHeld => ?_); refine with_tabW lambrequinlaw21_FactsMore.tab17 lambrequinlaw21_FactsMore.bits17 (fun HT_ HW_ => ?_)
               generalize wr.drew = w82 at HO_7 HO_8 BK123 HB hHeld ⊢
               refine pure_ (i := 0) (N := some 88) (v := ?_) (a' := ?_) (bl 32 1) rfl rfl (any_of HT_.out (by kernel_rfl)) (fun _ _ _ h => h) (Or.inl ⟨by rfl, ?_⟩) ?_ ?_
               rotate_left
               ·intro w'
                go_simp
                with_reducible rfl
               rotate_left
               ·simp only [Act.put, sA, sZ, sS, i64_w, i32_w]
                rfl
               refine pure_ (i := 1) (N := some 89) (v := ?_) (a' := ?_) (bl 32 3) rfl rfl (any_of HT_.out (by kernel_rfl)) (fun _ _ _ h => h) (Or.inl ⟨by rfl, ?_⟩) ?_ ?_
               rotate_left
               ·intro w'
                go_simp
                with_reducible rfl
               rotate_left
               ·simp only [Act.put, sA, sZ, sS, i64_w, i32_w]
                rfl
               refine pure_ (i := 2) (N := some 90) (v := ?_) (a' := ?_) (bl 32 7) rfl rfl (any_of HT_.out (by kernel_rfl)) (fun _ _ _ h => h) (Or.inl ⟨by rfl, ?_⟩) ?_ ?_
               rotate_left
               ·intro w'
                go_simp
                with_reducible rfl
               rotate_left
               ·simp only [Act.put, sA, sZ, sS, i64_w, i32_w]
                rfl
               refine pure_ (i := 3) (N := some 91) (v := ?_) (a' := ?_) (bl 32 15) rfl rfl (any_of HT_.out (by kernel_rfl)) (fun _ _ _ h => h) (Or.inl ⟨by rfl, ?_⟩) ?_ ?_
               rotate_left
               ·intro w'
                go_simp
                with_reducible rfl
               rotate_left
               ·simp only [Act.put, sA, sZ, sS, i64_w, i32_w]
                rfl
               refine pure_ (i := 4) (N := some 92) (v := ?_) (a' := ?_) (bl 32 31) rfl rfl (any_of HT_.out (by kernel_rfl)) (fun _ _ _ h => h) (Or.inl ⟨by rfl, ?_⟩) ?_ ?_
               rotate_left
               ·intro w'
                go_simp
                with_reducible rfl
               rotate_left
               ·simp only [Act.put, sA, sZ, sS, i64_w, i32_w]
                rfl
               refine pure_ (i := 5) (N := some 93) (v := ?_) (a' := ?_) (bl 32 63) rfl rfl (any_of HT_.out (by kernel_rfl)) (fun _ _ _ h => h) (Or.inl ⟨by rfl, ?_⟩) ?_ ?_
               rotate_left
               ·intro w'
                go_simp
                with_reducible rfl
               rotate_left
               ·simp only [Act.put, sA, sZ, sS, i64_w, i32_w]
                rfl
               refine pure_ (i := 6) (N := some 94) (v := ?_) (a' := ?_) (bl 32 127) rfl rfl (any_of HT_.out (by kernel_rfl)) (fun _ _ _ h => h) (Or.inl ⟨by rfl, ?_⟩) ?_ ?_
               rotate_left
               ·intro w'
                go_simp
                with_reducible rfl
               rotate_left
               ·simp only [Act.put, sA, sZ, sS, i64_w, i32_w]
                rfl
               refine pure_ (i := 7) (N := some 95) (v := ?_) (a' := ?_) (bl 32 255) rfl rfl (any_of HT_.out (by kernel_rfl)) (fun _ _ _ h => h) (Or.inl ⟨by rfl, ?_⟩) ?_ ?_
               rotate_left
               ·intro w'
                go_simp
                with_reducible rfl
               rotate_left
               ·simp only [Act.put, sA, sZ, sS, i64_w, i32_w]
                rfl
               refine pure_ (i := 8) (N := some 96) (v := ?_) (a' := ?_) (bl 32 511) rfl rfl (any_of HT_.out (by kernel_rfl)) (fun _ _ _ h => h) (Or.inl ⟨by rfl, ?_⟩) ?_ ?_
               rotate_left
               ·intro w'
                go_simp
                with_reducible rfl
               rotate_left
               ·simp only [Act.put, sA, sZ, sS, i64_w, i32_w]
                rfl
               refine pure_ (i := 9) (N := some 97) (v := ?_) (a' := ?_) (bl 32 1023) rfl rfl (any_of HT_.out (by kernel_rfl)) (fun _ _ _ h => h) (Or.inl ⟨by rfl, ?_⟩) ?_ ?_
               rotate_left
               ·intro w'
                go_simp
                with_reducible rfl
               rotate_left
               ·simp only [Act.put, sA, sZ, sS, i64_w, i32_w]
                rfl
               refine pure_ (i := 10) (N := some 98) (v := ?_) (a' := ?_) (bl 32 2047) rfl rfl (any_of HT_.out (by kernel_rfl)) (fun _ _ _ h => h) (Or.inl ⟨by rfl, ?_⟩) ?_ ?_
               rotate_left
               ·intro w'
                go_simp
                with_reducible rfl
               rotate_left
               ·simp only [Act.put, sA, sZ, sS, i64_w, i32_w]
                rfl
               refine take_ (i := 11) (N := some 99) (v := ?_) (a' := ?_) (bl 32 4095) rfl rfl (take_ofW HT_.out HW_.out (by kernel_rfl)) (fun _ _ _ h => h) (Or.inl ⟨by rfl, ?_⟩) hHeld ?_ ?_
               rotate_left
               ·rintro w' ⟨s0, s1, s2⟩
                go_simp
                with_reducible rfl
               rotate_left
               ·simp only [Act.put, sA, sZ, sS, i64_w, i32_w]
                rfl
               refine one_ (i := 12) (N := some 100) (bl 32 8191) rfl rfl (one_of HT_.out (by kernel_rfl)) (by decide) (fun K hK => ?_)
               refine Kd.R_lit_step k28 _ 28 ?hg (N := 100) ?hd (xs := ([(⟨t120, t121, t122⟩ : Val)] : List (Val))) (inner := [.bool t120, .string t121, .int .i64 t122]) (ok := fun _ => True) (okp := fun _ => True) ?hr ?hp (fun _ hk => hk) trivial (Below.refl _ _) (Nat.le_refl _) (by simp) ?_; (case hd => rfl); (case hg => rfl); (case hr => first | (go_simp; done) | (go_simp; rfl)); (case hp => exact (Reps.c3 (show Kd.M k28 _ _ _ (⟨t120, t121, t122⟩ : Val) [.bool t120, .string t121, .int .i64 t122] from (k28_mkM _ _ _ (⟨t120, t121, t122⟩ : Val) )) (Reps.none _ _)))
               intro v128 w84 ho85 hb hg_ hnew_
               clear hg_ hnew_
               (first | rw [← Ny127.out] at ho85 | (simp only [Int.reduceToNat] at ho85; rw [← Ny127.out] at ho85))
               replace HO_7 := am (Kd.N_elder' (by (with_reducible repeat (first | apply Kd.N_alloc | apply Kd.N_drewN | apply Kd.N_drew)); exact HO_7.out) (Kd.R_base ho85) hb)
               replace HO_8 := am (Kd.N_elder' (by (with_reducible repeat (first | apply Kd.N_alloc | apply Kd.N_drewN | apply Kd.N_drew)); exact HO_8.out) (Kd.R_base ho85) hb)
               have HO129 := am (Kd.R_lower (Kd.R_newB ho85 (g := gb123) (o := .cells #[.bool t120, .string t121, .int .i64 t122] 28 (0, 0)) (pB BK123.out)) (below_size (pL HB.out)))
               replace BK123 := am (bb_ BK123.out hb)
               replace HB := am (bs_ HB.out hb)
               clear hb ho85
               obtain ⟨Ao86, co86, eo86⟩ := Kd.R_slice HO129.out
               (first | subst eo86 | (injection eo86 with f1_ f2_ f3_; have f4_ := f1_.symm; have f5_ := f3_.symm; clear f1_ f2_ f3_; subst f4_; subst f5_))
               refine hK.out _ _ ⟨(blk_cell BK123.out 0).trans rfl, (blk_cell BK123.out 1).trans rfl, (blk_cell BK123.out 2).trans rfl⟩ (fun hHeld => ?_)
               clear hK K
               refine norm_ (a' := ?_) ?_ ?_
               rotate_left
               ·show Act.put _ (some 100) _ = _
                simp only [Act.put, sA, sZ, sS, i64_w, i32_w]
                rfl
               refine one_ (i := 13) (N := some 101) (bl 32 16383) rfl rfl (one_of HT_.out (by kernel_rfl)) (by decide) (fun K hK => ?_)
               refine goes_ Try.func9 (by kernel_rfl) rfl #[.slice Ao83 t117.length co83, .string (⟨#[110, 111, 100, 101]⟩ : ByteArray), .slice Ao86 y127.length co86] (by rfl) rfl rfl (by (try simp only [List.map_toArray, List.map_cons, List.map_nil]); first | done | rfl | (simp only [List.length_drop, List.length_take]; rfl)) ?_
               with_reducible refine (facts_Has.calls _ _ t117 (⟨#[110, 111, 100, 101]⟩ : ByteArray) _ _ y127 false _ ?side1 ?side2 ?side3 ?side4 A45.out).mono ?_
               (case side1 => repeat (first | exact (Kd.N_reads' HO_8.out).2.2 | (with_reducible refine Kd.C_alloc ?_ _) | (with_reducible refine Kd.C_drewN ?_ _) | (with_reducible refine Kd.C_drew ?_)))
               (case side2 => exact (Kd.N_reads' HO_8.out).2.1)
               (case side3 => repeat (first | exact (Kd.R_reads' HO129.out).2.2 | (with_reducible refine Kd.C_alloc ?_ _) | (with_reducible refine Kd.C_drewN ?_ _) | (with_reducible refine Kd.C_drew ?_)))
               (case side4 => exact (Kd.R_reads' HO129.out).2.1)
               rintro e w87 ⟨rfl, hb⟩
               refine ⟨_, rfl, ?_⟩
               replace HO_7 := am (Kd.N_below (by (with_reducible repeat (first | apply Kd.N_alloc | apply Kd.N_drewN | apply Kd.N_drew)); exact HO_7.out) hb)
               replace HO_8 := am (Kd.N_below (by (with_reducible repeat (first | apply Kd.N_alloc | apply Kd.N_drewN | apply Kd.N_drew)); exact HO_8.out) hb)
               replace HO129 := am (Rb_ HO129.out hb)
               replace BK123 := am (bb_ BK123.out hb)
               replace HB := am (bs_ HB.out hb)
               (try clear hb)
               (try clear hb2)
               (try clear hk)
               (try clear hi)
               refine hK.out _ _ ⟨(blk_cell BK123.out 0).trans rfl, (blk_cell BK123.out 1).trans rfl, (blk_cell BK123.out 2).trans rfl⟩ (fun hHeld => ?_)
               clear hK K
               refine norm_ (a' := ?_) ?_ ?_
               rotate_left
               ·show Act.put _ (some 101) _ = _
                simp only [Act.put, sA, sZ, sS, i64_w, i32_w]
                rfl
               refine pure_ (i := 14) (N := some 102) (v := ?_) (a' := ?_) (bl 32 32767) rfl rfl (any_of HT_.out (by kernel_rfl)) (fun _ _ _ h => h) (Or.inl ⟨by rfl, ?_⟩) ?_ ?_
               rotate_left
               ·intro w'
                go_simp
                with_reducible rfl
               rotate_left
               ·simp only [Act.put, sA, sZ, sS, i64_w, i32_w]
                rfl
               refine pure_ (i := 15) (N := some 103) (v := ?_) (a' := ?_) (bl 32 65535) rfl rfl (any_of HT_.out (by kernel_rfl)) (fun _ _ _ h => h) (Or.inl ⟨by rfl, ?_⟩) ?_ ?_
               rotate_left
               ·intro w'
                go_simp
                with_reducible rfl
               rotate_left
               ·simp only [Act.put, sA, sZ, sS, i64_w, i32_w]
                rfl
               refine pure_ (i := 16) (N := some 104) (v := undef) (a' := ?_) (bl 32 131071) rfl rfl (any_of HT_.out (by kernel_rfl)) (fun _ _ _ h => h) (Or.inr ⟨by rfl, rfl⟩) ?_ ?_
               rotate_left
               ·simp only [Act.put, sA, sZ, sS, i64_w, i32_w]
                rfl
               refine pure_ (i := 17) (N := some 105) (v := undef) (a' := ?_) (bl 32 262143) rfl rfl (any_of HT_.out (by kernel_rfl)) (fun _ _ _ h => h) (Or.inr ⟨by rfl, rfl⟩) ?_ ?_
               rotate_left
               ·simp only [Act.put, sA, sZ, sS, i64_w, i32_w]
                rfl
               refine pure_ (i := 18) (N := some 106) (v := undef) (a' := ?_) (bl 32 524287) rfl rfl (any_of HT_.out (by kernel_rfl)) (fun _ _ _ h => h) (Or.inr ⟨by rfl, rfl⟩) ?_ ?_
               rotate_left
               ·simp only [Act.put, sA, sZ, sS, i64_w, i32_w]
                rfl
               refine pure_ (i := 19) (N := some 107) (v := undef) (a' := ?_) (bl 32 1048575) rfl rfl (any_of HT_.out (by kernel_rfl)) (fun _ _ _ h => h) (Or.inr ⟨by rfl, rfl⟩) ?_ ?_
               rotate_left
               ·simp only [Act.put, sA, sZ, sS, i64_w, i32_w]
                rfl
               refine pure_ (i := 20) (N := some 108) (v := undef) (a' := ?_) (bl 32 2097151) rfl rfl (any_of HT_.out (by kernel_rfl)) (fun _ _ _ h => h) (Or.inr ⟨by rfl, rfl⟩) ?_ ?_
               rotate_left
               ·simp only [Act.put, sA, sZ, sS, i64_w, i32_w]
                rfl
               refine pure_ (i := 21) (N := some 109) (v := undef) (a' := ?_) (bl 32 4194303) rfl rfl (any_of HT_.out (by kernel_rfl)) (fun _ _ _ h => h) (Or.inr ⟨by rfl, rfl⟩) ?_ ?_
               rotate_left
               ·simp only [Act.put, sA, sZ, sS, i64_w, i32_w]
                rfl
               refine pure_ (i := 22) (N := some 110) (v := ?_) (a' := ?_) (bl 32 8388607) rfl rfl (any_of HT_.out (by kernel_rfl)) (fun _ _ _ h => h) (Or.inl ⟨by rfl, ?_⟩) ?_ ?_
               rotate_left
               ·intro w'
                go_simp
                with_reducible rfl
               rotate_left
               ·simp only [Act.put, sA, sZ, sS, i64_w, i32_w]
                rfl
               refine pure_ (i := 23) (N := some 111) (v := ?_) (a' := ?_) (bl 32 16777215) rfl rfl (any_of HT_.out (by kernel_rfl)) (fun _ _ _ h => h) (Or.inl ⟨by rfl, ?_⟩) ?_ ?_
               rotate_left
               ·intro w'
                go_simp
                with_reducible rfl
               rotate_left
               ·simp only [Act.put, sA, sZ, sS, i64_w, i32_w]
                rfl
               refine pure_ (i := 24) (N := some 112) (v := undef) (a' := ?_) (bl 32 33554431) rfl rfl (any_of HT_.out (by kernel_rfl)) (fun _ _ _ h => h) (Or.inr ⟨by rfl, rfl⟩) ?_ ?_
               rotate_left
               ·simp only [Act.put, sA, sZ, sS, i64_w, i32_w]
                rfl
               refine pure_ (i := 25) (N := some 113) (v := undef) (a' := ?_) (bl 32 67108863) rfl rfl (any_of HT_.out (by kernel_rfl)) (fun _ _ _ h => h) (Or.inr ⟨by rfl, rfl⟩) ?_ ?_
               rotate_left
               ·simp only [Act.put, sA, sZ, sS, i64_w, i32_w]
                rfl
               refine pure_ (i := 26) (N := some 114) (v := undef) (a' := ?_) (bl 32 134217727) rfl rfl (any_of HT_.out (by kernel_rfl)) (fun _ _ _ h => h) (Or.inr ⟨by rfl, rfl⟩) ?_ ?_
               rotate_left
               ·simp only [Act.put, sA, sZ, sS, i64_w, i32_w]
                rfl
               refine pure_ (i := 27) (N := some 115) (v := undef) (a' := ?_) (bl 32 268435455) rfl rfl (any_of HT_.out (by kernel_rfl)) (fun _ _ _ h => h) (Or.inr ⟨by rfl, rfl⟩) ?_ ?_
               rotate_left
               ·simp only [Act.put, sA, sZ, sS, i64_w, i32_w]
                rfl
               refine pure_ (i := 28) (N := some 116) (v := undef) (a' := ?_) (bl 32 536870911) rfl rfl (any_of HT_.out (by kernel_rfl)) (fun _ _ _ h => h) (Or.inr ⟨by rfl, rfl⟩) ?_ ?_
               rotate_left
               ·simp only [Act.put, sA, sZ, sS, i64_w, i32_w]
                rfl
               refine pure_ (i := 29) (N := some 117) (v := undef) (a' := ?_) (bl 32 1073741823) rfl rfl (any_of HT_.out (by kernel_rfl)) (fun _ _ _ h => h) (Or.inr ⟨by rfl, rfl⟩) ?_ ?_
               rotate_left
               ·simp only [Act.put, sA, sZ, sS, i64_w, i32_w]
                rfl
               refine pure_ (i := 30) (N := some 118) (v := ?_) (a' := ?_) (bl 32 2147483647) rfl rfl (any_of HT_.out (by kernel_rfl)) (fun _ _ _ h => h) (Or.inl ⟨by rfl, ?_⟩) ?_ ?_
               rotate_left
               ·intro w'
                go_simp
                with_reducible rfl
               rotate_left
               ·simp only [Act.put, sA, sZ, sS, i64_w, i32_w]
                rfl
               refine pure_ (i := 31) (N := some 4) (v := ?_) (a' := ?_) (bl 32 4294967295) rfl rfl (any_of HT_.out (by kernel_rfl)) (fun _ _ _ h => h) (Or.inl ⟨by rfl, ?_⟩) ?_ ?_
               rotate_left
               ·intro w'
                go_simp
                with_reducible rfl
               rotate_left
               ·simp only [Act.put, sA, sZ, sS, i64_w, i32_w]
                rfl
               refine done_ (done_of HT_.out (by kernel_rfl)) ?_
               try go_wp2
               go_ret
               exact ⟨by first | rfl | (simp [errW_none, errW_some] <;> rfl) | (simp [*, errW_none, errW_some] <;> rfl), pL HB.out⟩
             ·rw [if_neg c44] at H
              have c44b0 : ((t117.length : Int) == (wrap64 ((t105.length : Int) + 3))) = false := beq_eq_false_iff_ne.mpr c44
              have c44b1 : ((t117.length : Int) != (wrap64 ((t105.length : Int) + 3))) = true := bne_iff_ne.mpr c44
              obtain rfl := Option.some.inj H
              obtain ⟨Ao88, co88, eo88⟩ := Kd.N_slice HO_7.out
              subst eo88
              try go_wp2
              replace HO_7 := am (Kd.N_drew HO_7.out)
              replace HO_8 := am (Kd.N_drew HO_8.out)
              replace BK123 := am (blk_drew BK123.out)
              replace HB := am (below_drew1 HB.out)
              obtain ⟨Ao90, co90, eo90⟩ := Kd.N_slice HO_8.out
              (first | subst eo90 | (injection eo90 with f1_ f2_ f3_; have f4_ := f1_.symm; have f5_ := f3_.symm; clear f1_ f2_ f3_; subst f4_; subst f5_))
              refine start_ (n := 32) (S := fun w' => True) (ds := []) (bl 32 0) (by kernel_rfl) rfl rfl trivial (fun hHeld => ?_); refine with_tabW lambrequinlaw21_FactsMore.tab17 lambrequinlaw21_FactsMore.bits17 (fun HT_ HW_ => ?_)
              generalize wr.drew = w89 at HO_7 HO_8 BK123 HB hHeld ⊢
              refine pure_ (i := 0) (N := some 88) (v := ?_) (a' := ?_) (bl 32 1) rfl rfl (any_of HT_.out (by kernel_rfl)) (fun _ _ _ h => h) (Or.inl ⟨by rfl, ?_⟩) ?_ ?_
              rotate_left
              ·intro w'
               go_simp
               with_reducible rfl
              rotate_left
              ·simp only [Act.put, sA, sZ, sS, i64_w, i32_w]
               rfl
              refine pure_ (i := 1) (N := some 89) (v := ?_) (a' := ?_) (bl 32 3) rfl rfl (any_of HT_.out (by kernel_rfl)) (fun _ _ _ h => h) (Or.inl ⟨by rfl, ?_⟩) ?_ ?_
              rotate_left
              ·intro w'
               go_simp
               with_reducible rfl
              rotate_left
              ·simp only [Act.put, sA, sZ, sS, i64_w, i32_w]
               rfl
              refine pure_ (i := 2) (N := some 90) (v := ?_) (a' := ?_) (bl 32 7) rfl rfl (any_of HT_.out (by kernel_rfl)) (fun _ _ _ h => h) (Or.inl ⟨by rfl, ?_⟩) ?_ ?_
              rotate_left
              ·intro w'
               go_simp
               with_reducible rfl
              rotate_left
              ·simp only [Act.put, sA, sZ, sS, i64_w, i32_w]
               rfl
              refine pure_ (i := 3) (N := some 91) (v := ?_) (a' := ?_) (bl 32 15) rfl rfl (any_of HT_.out (by kernel_rfl)) (fun _ _ _ h => h) (Or.inl ⟨by rfl, ?_⟩) ?_ ?_
              rotate_left
              ·intro w'
               go_simp
               with_reducible rfl
              rotate_left
              ·simp only [Act.put, sA, sZ, sS, i64_w, i32_w]
               rfl
              refine pure_ (i := 4) (N := some 92) (v := ?_) (a' := ?_) (bl 32 31) rfl rfl (any_of HT_.out (by kernel_rfl)) (fun _ _ _ h => h) (Or.inl ⟨by rfl, ?_⟩) ?_ ?_
              rotate_left
              ·intro w'
               go_simp
               with_reducible rfl
              rotate_left
              ·simp only [Act.put, sA, sZ, sS, i64_w, i32_w]
               rfl
              refine pure_ (i := 5) (N := some 93) (v := ?_) (a' := ?_) (bl 32 63) rfl rfl (any_of HT_.out (by kernel_rfl)) (fun _ _ _ h => h) (Or.inl ⟨by rfl, ?_⟩) ?_ ?_
              rotate_left
              ·intro w'
               go_simp
               with_reducible rfl
              rotate_left
              ·simp only [Act.put, sA, sZ, sS, i64_w, i32_w]
               rfl
              refine pure_ (i := 6) (N := some 94) (v := ?_) (a' := ?_) (bl 32 127) rfl rfl (any_of HT_.out (by kernel_rfl)) (fun _ _ _ h => h) (Or.inl ⟨by rfl, ?_⟩) ?_ ?_
              rotate_left
              ·intro w'
               go_simp
               with_reducible rfl
              rotate_left
              ·simp only [Act.put, sA, sZ, sS, i64_w, i32_w]
               rfl
              refine pure_ (i := 7) (N := some 95) (v := ?_) (a' := ?_) (bl 32 255) rfl rfl (any_of HT_.out (by kernel_rfl)) (fun _ _ _ h => h) (Or.inl ⟨by rfl, ?_⟩) ?_ ?_
              rotate_left
              ·intro w'
               go_simp
               with_reducible rfl
              rotate_left
              ·simp only [Act.put, sA, sZ, sS, i64_w, i32_w]
               rfl
              refine pure_ (i := 8) (N := some 96) (v := ?_) (a' := ?_) (bl 32 511) rfl rfl (any_of HT_.out (by kernel_rfl)) (fun _ _ _ h => h) (Or.inl ⟨by rfl, ?_⟩) ?_ ?_
              rotate_left
              ·intro w'
               go_simp
               with_reducible rfl
              rotate_left
              ·simp only [Act.put, sA, sZ, sS, i64_w, i32_w]
               rfl
              refine pure_ (i := 9) (N := some 97) (v := ?_) (a' := ?_) (bl 32 1023) rfl rfl (any_of HT_.out (by kernel_rfl)) (fun _ _ _ h => h) (Or.inl ⟨by rfl, ?_⟩) ?_ ?_
              rotate_left
              ·intro w'
               go_simp
               with_reducible rfl
              rotate_left
              ·simp only [Act.put, sA, sZ, sS, i64_w, i32_w]
               rfl
              refine pure_ (i := 10) (N := some 98) (v := undef) (a' := ?_) (bl 32 2047) rfl rfl (any_of HT_.out (by kernel_rfl)) (fun _ _ _ h => h) (Or.inr ⟨by rfl, rfl⟩) ?_ ?_
              rotate_left
              ·simp only [Act.put, sA, sZ, sS, i64_w, i32_w]
               rfl
              refine pure_ (i := 11) (N := some 99) (v := undef) (a' := ?_) (bl 32 4095) rfl rfl (any_of HT_.out (by kernel_rfl)) (fun _ _ _ h => h) (Or.inr ⟨by rfl, rfl⟩) ?_ ?_
              rotate_left
              ·simp only [Act.put, sA, sZ, sS, i64_w, i32_w]
               rfl
              refine pure_ (i := 12) (N := some 100) (v := undef) (a' := ?_) (bl 32 8191) rfl rfl (any_of HT_.out (by kernel_rfl)) (fun _ _ _ h => h) (Or.inr ⟨by rfl, rfl⟩) ?_ ?_
              rotate_left
              ·simp only [Act.put, sA, sZ, sS, i64_w, i32_w]
               rfl
              refine pure_ (i := 13) (N := some 101) (v := undef) (a' := ?_) (bl 32 16383) rfl rfl (any_of HT_.out (by kernel_rfl)) (fun _ _ _ h => h) (Or.inr ⟨by rfl, rfl⟩) ?_ ?_
              rotate_left
              ·simp only [Act.put, sA, sZ, sS, i64_w, i32_w]
               rfl
              refine pure_ (i := 14) (N := some 102) (v := ?_) (a' := ?_) (bl 32 32767) rfl rfl (any_of HT_.out (by kernel_rfl)) (fun _ _ _ h => h) (Or.inl ⟨by rfl, ?_⟩) ?_ ?_
              rotate_left
              ·intro w'
               go_simp
               with_reducible rfl
              rotate_left
              ·simp only [Act.put, sA, sZ, sS, i64_w, i32_w]
               rfl
              refine pure_ (i := 15) (N := some 103) (v := ?_) (a' := ?_) (bl 32 65535) rfl rfl (any_of HT_.out (by kernel_rfl)) (fun _ _ _ h => h) (Or.inl ⟨by rfl, ?_⟩) ?_ ?_
              rotate_left
              ·intro w'
               go_simp
               with_reducible rfl
              rotate_left
              ·simp only [Act.put, sA, sZ, sS, i64_w, i32_w]
               rfl
              refine pure_ (i := 16) (N := some 104) (v := undef) (a' := ?_) (bl 32 131071) rfl rfl (any_of HT_.out (by kernel_rfl)) (fun _ _ _ h => h) (Or.inr ⟨by rfl, rfl⟩) ?_ ?_
              rotate_left
              ·simp only [Act.put, sA, sZ, sS, i64_w, i32_w]
               rfl
              refine pure_ (i := 17) (N := some 105) (v := undef) (a' := ?_) (bl 32 262143) rfl rfl (any_of HT_.out (by kernel_rfl)) (fun _ _ _ h => h) (Or.inr ⟨by rfl, rfl⟩) ?_ ?_
              rotate_left
              ·simp only [Act.put, sA, sZ, sS, i64_w, i32_w]
               rfl
              refine pure_ (i := 18) (N := some 106) (v := undef) (a' := ?_) (bl 32 524287) rfl rfl (any_of HT_.out (by kernel_rfl)) (fun _ _ _ h => h) (Or.inr ⟨by rfl, rfl⟩) ?_ ?_
              rotate_left
              ·simp only [Act.put, sA, sZ, sS, i64_w, i32_w]
               rfl
              refine pure_ (i := 19) (N := some 107) (v := undef) (a' := ?_) (bl 32 1048575) rfl rfl (any_of HT_.out (by kernel_rfl)) (fun _ _ _ h => h) (Or.inr ⟨by rfl, rfl⟩) ?_ ?_
              rotate_left
              ·simp only [Act.put, sA, sZ, sS, i64_w, i32_w]
               rfl
              refine pure_ (i := 20) (N := some 108) (v := undef) (a' := ?_) (bl 32 2097151) rfl rfl (any_of HT_.out (by kernel_rfl)) (fun _ _ _ h => h) (Or.inr ⟨by rfl, rfl⟩) ?_ ?_
              rotate_left
              ·simp only [Act.put, sA, sZ, sS, i64_w, i32_w]
               rfl
              refine pure_ (i := 21) (N := some 109) (v := undef) (a' := ?_) (bl 32 4194303) rfl rfl (any_of HT_.out (by kernel_rfl)) (fun _ _ _ h => h) (Or.inr ⟨by rfl, rfl⟩) ?_ ?_
              rotate_left
              ·simp only [Act.put, sA, sZ, sS, i64_w, i32_w]
               rfl
              refine pure_ (i := 22) (N := some 110) (v := ?_) (a' := ?_) (bl 32 8388607) rfl rfl (any_of HT_.out (by kernel_rfl)) (fun _ _ _ h => h) (Or.inl ⟨by rfl, ?_⟩) ?_ ?_
              rotate_left
              ·intro w'
               go_simp
               with_reducible rfl
              rotate_left
              ·simp only [Act.put, sA, sZ, sS, i64_w, i32_w]
               rfl
              refine pure_ (i := 23) (N := some 111) (v := ?_) (a' := ?_) (bl 32 16777215) rfl rfl (any_of HT_.out (by kernel_rfl)) (fun _ _ _ h => h) (Or.inl ⟨by rfl, ?_⟩) ?_ ?_
              rotate_left
              ·intro w'
               go_simp
               with_reducible rfl
              rotate_left
              ·simp only [Act.put, sA, sZ, sS, i64_w, i32_w]
               rfl
              refine pure_ (i := 24) (N := some 112) (v := undef) (a' := ?_) (bl 32 33554431) rfl rfl (any_of HT_.out (by kernel_rfl)) (fun _ _ _ h => h) (Or.inr ⟨by rfl, rfl⟩) ?_ ?_
              rotate_left
              ·simp only [Act.put, sA, sZ, sS, i64_w, i32_w]
               rfl
              refine pure_ (i := 25) (N := some 113) (v := undef) (a' := ?_) (bl 32 67108863) rfl rfl (any_of HT_.out (by kernel_rfl)) (fun _ _ _ h => h) (Or.inr ⟨by rfl, rfl⟩) ?_ ?_
              rotate_left
              ·simp only [Act.put, sA, sZ, sS, i64_w, i32_w]
               rfl
              refine pure_ (i := 26) (N := some 114) (v := undef) (a' := ?_) (bl 32 134217727) rfl rfl (any_of HT_.out (by kernel_rfl)) (fun _ _ _ h => h) (Or.inr ⟨by rfl, rfl⟩) ?_ ?_
              rotate_left
              ·simp only [Act.put, sA, sZ, sS, i64_w, i32_w]
               rfl
              refine pure_ (i := 27) (N := some 115) (v := undef) (a' := ?_) (bl 32 268435455) rfl rfl (any_of HT_.out (by kernel_rfl)) (fun _ _ _ h => h) (Or.inr ⟨by rfl, rfl⟩) ?_ ?_
              rotate_left
              ·simp only [Act.put, sA, sZ, sS, i64_w, i32_w]
               rfl
              refine pure_ (i := 28) (N := some 116) (v := undef) (a' := ?_) (bl 32 536870911) rfl rfl (any_of HT_.out (by kernel_rfl)) (fun _ _ _ h => h) (Or.inr ⟨by rfl, rfl⟩) ?_ ?_
              rotate_left
              ·simp only [Act.put, sA, sZ, sS, i64_w, i32_w]
               rfl
              refine pure_ (i := 29) (N := some 117) (v := undef) (a' := ?_) (bl 32 1073741823) rfl rfl (any_of HT_.out (by kernel_rfl)) (fun _ _ _ h => h) (Or.inr ⟨by rfl, rfl⟩) ?_ ?_
              rotate_left
              ·simp only [Act.put, sA, sZ, sS, i64_w, i32_w]
               rfl
              refine pure_ (i := 30) (N := some 118) (v := ?_) (a' := ?_) (bl 32 2147483647) rfl rfl (any_of HT_.out (by kernel_rfl)) (fun _ _ _ h => h) (Or.inl ⟨by rfl, ?_⟩) ?_ ?_
              rotate_left
              ·intro w'
               go_simp
               with_reducible rfl
              rotate_left
              ·simp only [Act.put, sA, sZ, sS, i64_w, i32_w]
               rfl
              refine pure_ (i := 31) (N := some 4) (v := ?_) (a' := ?_) (bl 32 4294967295) rfl rfl (any_of HT_.out (by kernel_rfl)) (fun _ _ _ h => h) (Or.inl ⟨by rfl, ?_⟩) ?_ ?_
              rotate_left
              ·intro w'
               go_simp
               with_reducible rfl
              rotate_left
              ·simp only [Act.put, sA, sZ, sS, i64_w, i32_w]
               rfl
              refine done_ (done_of HT_.out (by kernel_rfl)) ?_
              try go_wp2
              go_ret
              exact ⟨by first | rfl | (simp [errW_none, errW_some] <;> rfl) | (simp [*, errW_none, errW_some] <;> rfl), pL HB.out⟩
            ·replace c43 := Bool.eq_false_iff.mpr c43
             subst c43
             have H1 : (some false) = some r := by rw [if_neg (show ¬ (false = true) by decide)] at H; exact H
             clear H
             have H := H1
             clear H1
             obtain rfl := Option.some.inj H
             obtain ⟨Ao91, co91, eo91⟩ := Kd.N_slice HO_7.out
             subst eo91
             try go_wp2
             replace HO_7 := am (Kd.N_drew HO_7.out)
             replace HO_8 := am (Kd.N_drew HO_8.out)
             replace BK123 := am (blk_drew BK123.out)
             replace HB := am (below_drew1 HB.out)
             refine start_ (n := 32) (S := fun w' => True) (ds := []) (bl 32 0) (by kernel_rfl) rfl rfl trivial (fun hHeld => ?_); refine with_tabW lambrequinlaw21_FactsMore.tab17 lambrequinlaw21_FactsMore.bits17 (fun HT_ HW_ => ?_)
             generalize wr.drew = w92 at HO_7 HO_8 BK123 HB hHeld ⊢
             refine pure_ (i := 0) (N := some 88) (v := ?_) (a' := ?_) (bl 32 1) rfl rfl (any_of HT_.out (by kernel_rfl)) (fun _ _ _ h => h) (Or.inl ⟨by rfl, ?_⟩) ?_ ?_
             rotate_left
             ·intro w'
              go_simp
              with_reducible rfl
             rotate_left
             ·simp only [Act.put, sA, sZ, sS, i64_w, i32_w]
              rfl
             refine pure_ (i := 1) (N := some 89) (v := ?_) (a' := ?_) (bl 32 3) rfl rfl (any_of HT_.out (by kernel_rfl)) (fun _ _ _ h => h) (Or.inl ⟨by rfl, ?_⟩) ?_ ?_
             rotate_left
             ·intro w'
              go_simp
              with_reducible rfl
             rotate_left
             ·simp only [Act.put, sA, sZ, sS, i64_w, i32_w]
              rfl
             refine pure_ (i := 2) (N := some 90) (v := undef) (a' := ?_) (bl 32 7) rfl rfl (any_of HT_.out (by kernel_rfl)) (fun _ _ _ h => h) (Or.inr ⟨by rfl, rfl⟩) ?_ ?_
             rotate_left
             ·simp only [Act.put, sA, sZ, sS, i64_w, i32_w]
              rfl
             refine pure_ (i := 3) (N := some 91) (v := undef) (a' := ?_) (bl 32 15) rfl rfl (any_of HT_.out (by kernel_rfl)) (fun _ _ _ h => h) (Or.inr ⟨by rfl, rfl⟩) ?_ ?_
             rotate_left
             ·simp only [Act.put, sA, sZ, sS, i64_w, i32_w]
              rfl
             refine pure_ (i := 4) (N := some 92) (v := undef) (a' := ?_) (bl 32 31) rfl rfl (any_of HT_.out (by kernel_rfl)) (fun _ _ _ h => h) (Or.inr ⟨by rfl, rfl⟩) ?_ ?_
             rotate_left
             ·simp only [Act.put, sA, sZ, sS, i64_w, i32_w]
              rfl
             refine pure_ (i := 5) (N := some 93) (v := undef) (a' := ?_) (bl 32 63) rfl rfl (any_of HT_.out (by kernel_rfl)) (fun _ _ _ h => h) (Or.inr ⟨by rfl, rfl⟩) ?_ ?_
             rotate_left
             ·simp only [Act.put, sA, sZ, sS, i64_w, i32_w]
              rfl
             refine pure_ (i := 6) (N := some 94) (v := undef) (a' := ?_) (bl 32 127) rfl rfl (any_of HT_.out (by kernel_rfl)) (fun _ _ _ h => h) (Or.inr ⟨by rfl, rfl⟩) ?_ ?_
             rotate_left
             ·simp only [Act.put, sA, sZ, sS, i64_w, i32_w]
              rfl
             refine pure_ (i := 7) (N := some 95) (v := undef) (a' := ?_) (bl 32 255) rfl rfl (any_of HT_.out (by kernel_rfl)) (fun _ _ _ h => h) (Or.inr ⟨by rfl, rfl⟩) ?_ ?_
             rotate_left
             ·simp only [Act.put, sA, sZ, sS, i64_w, i32_w]
              rfl
             refine pure_ (i := 8) (N := some 96) (v := ?_) (a' := ?_) (bl 32 511) rfl rfl (any_of HT_.out (by kernel_rfl)) (fun _ _ _ h => h) (Or.inl ⟨by rfl, ?_⟩) ?_ ?_
             rotate_left
             ·intro w'
              go_simp
              with_reducible rfl
             rotate_left
             ·simp only [Act.put, sA, sZ, sS, i64_w, i32_w]
              rfl
             refine pure_ (i := 9) (N := some 97) (v := ?_) (a' := ?_) (bl 32 1023) rfl rfl (any_of HT_.out (by kernel_rfl)) (fun _ _ _ h => h) (Or.inl ⟨by rfl, ?_⟩) ?_ ?_
             rotate_left
             ·intro w'
              go_simp
              with_reducible rfl
             rotate_left
             ·simp only [Act.put, sA, sZ, sS, i64_w, i32_w]
              rfl
             refine pure_ (i := 10) (N := some 98) (v := undef) (a' := ?_) (bl 32 2047) rfl rfl (any_of HT_.out (by kernel_rfl)) (fun _ _ _ h => h) (Or.inr ⟨by rfl, rfl⟩) ?_ ?_
             rotate_left
             ·simp only [Act.put, sA, sZ, sS, i64_w, i32_w]
              rfl
             refine pure_ (i := 11) (N := some 99) (v := undef) (a' := ?_) (bl 32 4095) rfl rfl (any_of HT_.out (by kernel_rfl)) (fun _ _ _ h => h) (Or.inr ⟨by rfl, rfl⟩) ?_ ?_
             rotate_left
             ·simp only [Act.put, sA, sZ, sS, i64_w, i32_w]
              rfl
             refine pure_ (i := 12) (N := some 100) (v := undef) (a' := ?_) (bl 32 8191) rfl rfl (any_of HT_.out (by kernel_rfl)) (fun _ _ _ h => h) (Or.inr ⟨by rfl, rfl⟩) ?_ ?_
             rotate_left
             ·simp only [Act.put, sA, sZ, sS, i64_w, i32_w]
              rfl
             refine pure_ (i := 13) (N := some 101) (v := undef) (a' := ?_) (bl 32 16383) rfl rfl (any_of HT_.out (by kernel_rfl)) (fun _ _ _ h => h) (Or.inr ⟨by rfl, rfl⟩) ?_ ?_
             rotate_left
             ·simp only [Act.put, sA, sZ, sS, i64_w, i32_w]
              rfl
             refine pure_ (i := 14) (N := some 102) (v := ?_) (a' := ?_) (bl 32 32767) rfl rfl (any_of HT_.out (by kernel_rfl)) (fun _ _ _ h => h) (Or.inl ⟨by rfl, ?_⟩) ?_ ?_
             rotate_left
             ·intro w'
              go_simp
              with_reducible rfl
             rotate_left
             ·simp only [Act.put, sA, sZ, sS, i64_w, i32_w]
              rfl
             refine pure_ (i := 15) (N := some 103) (v := ?_) (a' := ?_) (bl 32 65535) rfl rfl (any_of HT_.out (by kernel_rfl)) (fun _ _ _ h => h) (Or.inl ⟨by rfl, ?_⟩) ?_ ?_
             rotate_left
             ·intro w'
              go_simp
              with_reducible rfl
             rotate_left
             ·simp only [Act.put, sA, sZ, sS, i64_w, i32_w]
              rfl
             refine pure_ (i := 16) (N := some 104) (v := undef) (a' := ?_) (bl 32 131071) rfl rfl (any_of HT_.out (by kernel_rfl)) (fun _ _ _ h => h) (Or.inr ⟨by rfl, rfl⟩) ?_ ?_
             rotate_left
             ·simp only [Act.put, sA, sZ, sS, i64_w, i32_w]
              rfl
             refine pure_ (i := 17) (N := some 105) (v := undef) (a' := ?_) (bl 32 262143) rfl rfl (any_of HT_.out (by kernel_rfl)) (fun _ _ _ h => h) (Or.inr ⟨by rfl, rfl⟩) ?_ ?_
             rotate_left
             ·simp only [Act.put, sA, sZ, sS, i64_w, i32_w]
              rfl
             refine pure_ (i := 18) (N := some 106) (v := undef) (a' := ?_) (bl 32 524287) rfl rfl (any_of HT_.out (by kernel_rfl)) (fun _ _ _ h => h) (Or.inr ⟨by rfl, rfl⟩) ?_ ?_
             rotate_left
             ·simp only [Act.put, sA, sZ, sS, i64_w, i32_w]
              rfl
             refine pure_ (i := 19) (N := some 107) (v := undef) (a' := ?_) (bl 32 1048575) rfl rfl (any_of HT_.out (by kernel_rfl)) (fun _ _ _ h => h) (Or.inr ⟨by rfl, rfl⟩) ?_ ?_
             rotate_left
             ·simp only [Act.put, sA, sZ, sS, i64_w, i32_w]
              rfl
             refine pure_ (i := 20) (N := some 108) (v := undef) (a' := ?_) (bl 32 2097151) rfl rfl (any_of HT_.out (by kernel_rfl)) (fun _ _ _ h => h) (Or.inr ⟨by rfl, rfl⟩) ?_ ?_
             rotate_left
             ·simp only [Act.put, sA, sZ, sS, i64_w, i32_w]
              rfl
             refine pure_ (i := 21) (N := some 109) (v := undef) (a' := ?_) (bl 32 4194303) rfl rfl (any_of HT_.out (by kernel_rfl)) (fun _ _ _ h => h) (Or.inr ⟨by rfl, rfl⟩) ?_ ?_
             rotate_left
             ·simp only [Act.put, sA, sZ, sS, i64_w, i32_w]
              rfl
             refine pure_ (i := 22) (N := some 110) (v := ?_) (a' := ?_) (bl 32 8388607) rfl rfl (any_of HT_.out (by kernel_rfl)) (fun _ _ _ h => h) (Or.inl ⟨by rfl, ?_⟩) ?_ ?_
             rotate_left
             ·intro w'
              go_simp
              with_reducible rfl
             rotate_left
             ·simp only [Act.put, sA, sZ, sS, i64_w, i32_w]
              rfl
             refine pure_ (i := 23) (N := some 111) (v := ?_) (a' := ?_) (bl 32 16777215) rfl rfl (any_of HT_.out (by kernel_rfl)) (fun _ _ _ h => h) (Or.inl ⟨by rfl, ?_⟩) ?_ ?_
             rotate_left
             ·intro w'
              go_simp
              with_reducible rfl
             rotate_left
             ·simp only [Act.put, sA, sZ, sS, i64_w, i32_w]
              rfl
             refine pure_ (i := 24) (N := some 112) (v := undef) (a' := ?_) (bl 32 33554431) rfl rfl (any_of HT_.out (by kernel_rfl)) (fun _ _ _ h => h) (Or.inr ⟨by rfl, rfl⟩) ?_ ?_
             rotate_left
             ·simp only [Act.put, sA, sZ, sS, i64_w, i32_w]
              rfl
             refine pure_ (i := 25) (N := some 113) (v := undef) (a' := ?_) (bl 32 67108863) rfl rfl (any_of HT_.out (by kernel_rfl)) (fun _ _ _ h => h) (Or.inr ⟨by rfl, rfl⟩) ?_ ?_
             rotate_left
             ·simp only [Act.put, sA, sZ, sS, i64_w, i32_w]
              rfl
             refine pure_ (i := 26) (N := some 114) (v := undef) (a' := ?_) (bl 32 134217727) rfl rfl (any_of HT_.out (by kernel_rfl)) (fun _ _ _ h => h) (Or.inr ⟨by rfl, rfl⟩) ?_ ?_
             rotate_left
             ·simp only [Act.put, sA, sZ, sS, i64_w, i32_w]
              rfl
             refine pure_ (i := 27) (N := some 115) (v := undef) (a' := ?_) (bl 32 268435455) rfl rfl (any_of HT_.out (by kernel_rfl)) (fun _ _ _ h => h) (Or.inr ⟨by rfl, rfl⟩) ?_ ?_
             rotate_left
             ·simp only [Act.put, sA, sZ, sS, i64_w, i32_w]
              rfl
             refine pure_ (i := 28) (N := some 116) (v := undef) (a' := ?_) (bl 32 536870911) rfl rfl (any_of HT_.out (by kernel_rfl)) (fun _ _ _ h => h) (Or.inr ⟨by rfl, rfl⟩) ?_ ?_
             rotate_left
             ·simp only [Act.put, sA, sZ, sS, i64_w, i32_w]
              rfl
             refine pure_ (i := 29) (N := some 117) (v := undef) (a' := ?_) (bl 32 1073741823) rfl rfl (any_of HT_.out (by kernel_rfl)) (fun _ _ _ h => h) (Or.inr ⟨by rfl, rfl⟩) ?_ ?_
             rotate_left
             ·simp only [Act.put, sA, sZ, sS, i64_w, i32_w]
              rfl
             refine pure_ (i := 30) (N := some 118) (v := ?_) (a' := ?_) (bl 32 2147483647) rfl rfl (any_of HT_.out (by kernel_rfl)) (fun _ _ _ h => h) (Or.inl ⟨by rfl, ?_⟩) ?_ ?_
             rotate_left
             ·intro w'
              go_simp
              with_reducible rfl
             rotate_left
             ·simp only [Act.put, sA, sZ, sS, i64_w, i32_w]
              rfl
             refine pure_ (i := 31) (N := some 4) (v := ?_) (a' := ?_) (bl 32 4294967295) rfl rfl (any_of HT_.out (by kernel_rfl)) (fun _ _ _ h => h) (Or.inl ⟨by rfl, ?_⟩) ?_ ?_
             rotate_left
             ·intro w'
              go_simp
              with_reducible rfl
             rotate_left
             ·simp only [Act.put, sA, sZ, sS, i64_w, i32_w]
              rfl
             refine done_ (done_of HT_.out (by kernel_rfl)) ?_
             try go_wp2
             go_ret
             exact ⟨by first | rfl | (simp [errW_none, errW_some] <;> rfl) | (simp [*, errW_none, errW_some] <;> rfl), pL HB.out⟩
        ·rw [if_neg c18] at H
         exact absurd H (by simp)
       ·rw [if_neg c17] at H
        exact absurd H (by simp)
end Go.Proofs.Ytoekfmdcplphmaa.H
namespace Go.Proofs.Ytoekfmdcplphmaa.H
open Go.RowKit Go.Proofs.YtoekfmdcplphmaaW.PrintWords
/-- no longer than the model's longest text -/
def bStr (s : ByteArray) : Prop := s.size ≤ 9223372036854775807
/-- What an argument of a type holds, read as the kind kd; B: how long its texts are. -/
structure Opens {α : Type} (P : Program) (t : TypeId) (kd : Kd α) (B : α → Prop) : Prop where
  size : P.cellsOf t = kd.sz
  opened : ∀ {H : Type} {enc : TypeId × Value → H} {w : World} {base : Nat} {sp : Nat → Bool} {held : Bool} {fuel : Nat} {cs : List Value} {x : DataW H × List MemPlace},
    DataW.trod enc P w base sp held fuel t cs = some x → ∃ a, kd.K w a cs ∧ B a
theorem Opens.as {α : Type} {P : Program} {t : TypeId} {kd : Kd α} {B B' : α → Prop} (h : Opens P t kd B) (hB : ∀ a, B a → B' a) : Opens P t kd B' :=
  ⟨h.size, fun hx => by obtain ⟨a, ha, hb⟩ := h.opened hx; exact ⟨a, ha, hB a hb⟩⟩
theorem opens_bool {P : Program} {t : TypeId} (ht : P.underlying t = some .bool) (hs : P.cellsOf t = 1) : Opens P t Kd.bool (fun _ => True) :=
  ⟨hs, fun h => by obtain ⟨b, rfl, _⟩ := DataW.trod_bool ht h; exact ⟨b, rfl, trivial⟩⟩
theorem opens_int {P : Program} {t : TypeId} {k : IntKind} (ht : P.underlying t = some (.int k)) (hs : P.cellsOf t = 1) : Opens P t (Kd.int k) (fun _ => True) :=
  ⟨hs, fun h => by obtain ⟨b, rfl, _⟩ := DataW.trod_int ht h; exact ⟨b, rfl, trivial⟩⟩
theorem opens_string {P : Program} {t : TypeId} (ht : P.underlying t = some .string) (hs : P.cellsOf t = 1) : Opens P t Kd.string bStr :=
  ⟨hs, fun h => by obtain ⟨b, rfl, _, hb⟩ := DataW.trod_string ht h; exact ⟨b, rfl, hb⟩⟩
theorem list_of {α : Type} (p : Nat → α → Prop) : ∀ n : Nat, (∀ i, i < n → ∃ y, p i y) → ∃ l : List α, l.length = n ∧ ∀ i y, l[i]? = some y → p i y
  | 0, _ => ⟨[], rfl, fun i y h => by simp at h⟩
  | n + 1, h => by
    obtain ⟨l, hl, hp⟩ := list_of p n (fun i hi => h i (by omega))
    obtain ⟨y, hy⟩ := h n (by omega)
    refine ⟨l ++ [y], by simp [hl], fun i z hz => ?_⟩
    rcases Nat.lt_trichotomy i n with hi | rfl | hi
    · rw [List.getElem?_append_left (by omega)] at hz
      exact hp i z hz
    · rw [List.getElem?_append_right (by omega), hl, Nat.sub_self] at hz
      simp at hz
      subst hz
      exact hy
    · rw [List.getElem?_eq_none (by simp [hl]; omega)] at hz
      simp at hz
theorem addr_add_add (a : Addr) (i j : Nat) : (a.add i).add j = a.add (i + j) := by
  unfold Addr.add
  by_cases hi : i = 0 <;> by_cases hj : j = 0 <;> simp [hi, hj, Nat.add_assoc]
theorem opens_slice {α : Type} {P : Program} {t e : TypeId} {kd : Kd α} {B : α → Prop} (ht : P.underlying t = some (.slice e)) (hs : P.cellsOf t = 1) (he : Opens P e kd B) (q : Nat) : Opens P t (Kd.slice q kd) (fun l => l.length ≤ 9223372036854775807 ∧ ∀ y ∈ l, B y) := by
  refine ⟨hs, fun {H enc w base sp held fuel cs x} h => ?_⟩
  rcases DataW.trod_slice ht h with ⟨rfl, _⟩ | ⟨a, len, cap, elems, rest, n, _, rfl, _, _, hl, hm, hlen, hel, _⟩
  · exact ⟨[], ⟨none, 0, rfl, Nat.le_refl _, rfl, by simp, fun h => absurd h (by simp)⟩, by simp, by simp⟩
  · obtain ⟨l, hll, hp⟩ := list_of (fun i y => B y ∧ ∃ c, c.length = kd.sz ∧ kd.K w y c ∧ ∀ j u, c[j]? = some u → w.cell? (a.add (i * kd.sz + j)) = some u) len (fun i hi => by
      have h1 := hel i hi
      rw [List.getElem?_eq_getElem (by omega)] at h1
      obtain ⟨cs', h2, h3⟩ := Option.bind_eq_some_iff.1 h1
      obtain ⟨y, hy, hby⟩ := he.opened h3
      obtain ⟨_, h4, h5⟩ := World.cells?_some h2
      refine ⟨y, hby, cs', by rw [h4, he.size], hy, fun j u hu => ?_⟩
      have hj : j < P.cellsOf e := by rw [← h4]; exact (List.getElem?_eq_some_iff.1 hu).1
      rw [← addr_add_add, ← he.size, h5 j hj, hu])
    subst hll
    refine ⟨l, ⟨some a, cap, rfl, hl, rfl, Nat.le_trans hl (Nat.le_trans hm (by decide)), fun _ => ⟨a, rfl, fun j p hj => (hp j p hj).2⟩⟩, Nat.le_trans hl (Nat.le_trans hm (by decide)), fun y hy => ?_⟩
    obtain ⟨i, hi, rfl⟩ := List.mem_iff_getElem.1 hy
    exact (hp i _ (List.getElem?_eq_getElem hi)).1
theorem opens_iso {α β : Type} {P : Program} {t : TypeId} {kd : Kd α} {B : α → Prop} (h : Opens P t kd B) (f : β → α) (hf : ∀ b, ∃ a, f a = b) : Opens P t (Kd.iso kd f) (fun b => B (f b)) :=
  ⟨h.size, fun hx => by obtain ⟨a, ha⟩ := h.opened hx; obtain ⟨b, rfl⟩ := hf a; exact ⟨b, ha⟩⟩
/-- The fields of a struct from the offset o on. -/
structure OpensL {α : Type} (P : Program) (fs : List Field) (o : Nat) (kd : Kd α) (B : α → Prop) : Prop where
  opened : ∀ {H : Type} {enc : TypeId × Value → H} {w : World} {base : Nat} {sp : Nat → Bool} {held : Bool} {fuel : Nat} (cs : List Value), cs.length = o + kd.sz →
    (∀ f ∈ fs, ∃ x, DataW.trod enc P w base sp held fuel f.type ((cs.drop f.offset).take (P.cellsOf f.type)) = some x) → ∃ a, kd.K w a (cs.drop o) ∧ B a
theorem opensL_one {α : Type} {P : Program} {f : Field} {o : Nat} {kd : Kd α} {B : α → Prop} (ho : f.offset = o) (h : Opens P f.type kd B) : OpensL P [f] o kd B := by
  refine ⟨fun {H enc w base sp held fuel} cs hcs hf => ?_⟩
  obtain ⟨x, hx⟩ := hf f (by simp)
  obtain ⟨a, ha, hb⟩ := h.opened hx
  rw [ho, h.size, List.take_of_length_le (by simp [hcs])] at ha
  exact ⟨a, ha, hb⟩
theorem opensL_cons {α β : Type} {P : Program} {f : Field} {fs : List Field} {o : Nat} {kd : Kd α} {kd' : Kd β} {B : α → Prop} {B' : β → Prop} (ho : f.offset = o) (h : Opens P f.type kd B) (hr : OpensL P fs (o + kd.sz) kd' B') : OpensL P (f :: fs) o (Kd.pair kd kd') (fun p => B p.1 ∧ B' p.2) := by
  refine ⟨fun {H enc w base sp held fuel} cs hcs hf => ?_⟩
  obtain ⟨x, hx⟩ := hf f (by simp)
  obtain ⟨a, ha, hba⟩ := h.opened hx
  have hcs' : cs.length = o + kd.sz + kd'.sz := by rw [hcs]; show o + (kd.sz + kd'.sz) = _; omega
  obtain ⟨b, hb, hbb⟩ := hr.opened cs hcs' (fun g hg => hf g (by simp [hg]))
  rw [ho, h.size] at ha
  refine ⟨(a, b), ⟨(cs.drop o).take kd.sz, (cs.drop (o + kd.sz)), ?_, ha, hb⟩, hba, hbb⟩
  rw [← List.drop_drop, List.take_append_drop]
theorem opens_struct {α : Type} {P : Program} {t : TypeId} {fs : List Field} {kd : Kd α} {B : α → Prop} (ht : P.underlying t = some (.struct ⟨fs⟩)) (hs : P.cellsOf t = kd.sz) (h : OpensL P fs 0 kd B) : Opens P t kd B := by
  refine ⟨hs, fun {H enc w base sp held fuel cs x} hx => ?_⟩
  obtain ⟨xs, n, _, _, hl, hlen, hf⟩ := DataW.trod_struct ht hx
  obtain ⟨a, ha, hb⟩ := h.opened (enc := enc) (w := w) (base := base) (sp := sp) (held := held) (fuel := n) cs (by rw [hl, hs]; omega) (fun f hfm => by
    obtain ⟨i, hi, rfl⟩ := List.mem_iff_getElem.1 hfm
    have h1 := hf i fs[i] (by simp [hi])
    exact ⟨xs[i]'(by rw [hlen]; simpa using hi), by rw [h1, List.getElem?_eq_getElem]⟩)
  exact ⟨a, by simpa using ha, hb⟩
/-- an array of two numbers -/
theorem opens_arr2 {P : Program} {t e : TypeId} {k : IntKind} (ht : P.underlying t = some (.array 2 e)) (hu : P.underlying e = some (.int k)) (hs : P.cellsOf t = 2) (he : P.cellsOf e = 1) :
    Opens P t (Kd.pair (Kd.int k) (Kd.int k)) (fun p => (Lit.int k p.1).wf = true ∧ (Lit.int k p.2).wf = true) := by
  refine ⟨hs, fun {H enc w base sp held fuel cs x} hx => ?_⟩
  obtain ⟨xs, m, _, _, hl, hlen, hel⟩ := DataW.trod_array ht hx
  rw [hs] at hl
  match cs, hl with
  | [c0, c1], _ =>
    match xs, hlen with
    | [x0, x1], _ =>
      have h0 := hel 0 (by decide)
      have h1 := hel 1 (by decide)
      rw [he] at h0 h1
      obtain ⟨a, ea, _, wa⟩ := DataW.trod_int hu (show DataW.trod enc P w base sp held m e [c0] = some x0 from h0)
      obtain ⟨b, eb, _, wb⟩ := DataW.trod_int hu (show DataW.trod enc P w base sp held m e [c1] = some x1 from h1)
      cases ea; cases eb
      exact ⟨(a, b), ⟨[.int k a], [.int k b], rfl, rfl, rfl⟩, wa, wb⟩
theorem okWide_array {P : Program} {w : World} {r : Reach} {base : Nat} {t e : TypeId} {n : Nat} {v : Value} (ht : P.underlying t = some (.array n e)) (h : Value.okWide P w r base t v) : ∃ cs, v = .agg cs ∧ cs.size = P.cellsOf t := by
  simp only [Value.okWide, ht] at h
  obtain ⟨cs, h1, h2, _⟩ := h
  exact ⟨cs, h1, h2⟩
theorem opens_isoL {α β : Type} {P : Program} {fs : List Field} {o : Nat} {kd : Kd α} {B : α → Prop} (h : OpensL P fs o kd B) (f : β → α) (hf : ∀ b, ∃ a, f a = b) : OpensL P fs o (Kd.iso kd f) (fun b => B (f b)) := by
  refine ⟨fun {H enc w base sp held fuel} cs hcs hx => ?_⟩
  obtain ⟨a, ha⟩ := h.opened cs hcs hx
  obtain ⟨b, rfl⟩ := hf a
  exact ⟨b, ha⟩
/-- an argument's value, opened -/
theorem Opens.argB {α : Type} {P : Program} {t : TypeId} {kd : Kd α} {B : α → Prop} (h : Opens P t kd B) {H : Type} {enc : TypeId × Value → H} {w : World} {base : Nat} {sp : Nat → Bool} {held : Bool} {v : Value} {d : DataW H} {ps : List MemPlace}
    (hv : DataW.Trod enc P w base sp held t v d ps) : ∃ a, kd.K w a v.cells.toList ∧ B a := by
  obtain ⟨fuel, hf⟩ := hv
  exact h.opened hf
theorem Opens.arg {α : Type} {P : Program} {t : TypeId} {kd : Kd α} {B : α → Prop} (h : Opens P t kd B) {H : Type} {enc : TypeId × Value → H} {w : World} {base : Nat} {sp : Nat → Bool} {held : Bool} {v : Value} {d : DataW H} {ps : List MemPlace}
    (hv : DataW.Trod enc P w base sp held t v d ps) : ∃ a, kd.K w a v.cells.toList := by
  obtain ⟨a, ha, _⟩ := h.argB hv
  exact ⟨a, ha⟩
/-- An argument's row is no longer than its weight allows. -/
theorem sized_row {H : Type} {enc : TypeId × Value → H} {P : Program} {W : World} {base : Nat} {spare : Nat → Bool} {held : Bool} {t e : TypeId} {a : Option Addr} {len cap : Nat} {d : DataW H} {ps : List MemPlace} {ts : List TypeId} {ds : List (DataW H)} {j : Nat}
    (hsz : (DataW.weightsEach P ts ds).all (· ≤ reachBytes) = true) (ht : ts[j]? = some t) (hd : ds[j]? = some d) (hu : P.underlying t = some (.slice e)) {B : Nat} (hB : P.bytesOf e = B)
    (h : DataW.Trod enc P W base spare held t (.slice a len cap) d ps) : len * B ≤ 140737488351232 := by
  obtain ⟨fuel, hf⟩ := h
  rcases DataW.trod_slice hu hf with ⟨hcs, _⟩ | ⟨x, l, c, elems, rest, n, _, hcs, hx, _, hl, _, hlen, _⟩
  · simp [Value.cells] at hcs
    obtain ⟨rfl, rfl, rfl⟩ := hcs
    simp
  · simp [Value.cells] at hcs
    obtain ⟨rfl, rfl, rfl⟩ := hcs
    obtain ⟨rfl, _⟩ := Prod.mk.inj hx
    have z := sized_slice hsz ht hd hu
    rw [hB, List.length_map, List.length_map, hlen] at z
    exact Nat.le_trans (Nat.mul_le_mul_right _ (Nat.le_add_right _ _)) z
def bVal (x : Val) : Prop := True ∧ bStr (x.sym) ∧ True
theorem opens_Val : Opens Try.prog 28 k28 bVal :=
  Opens.as (opens_struct Try.underlying28 (by kernel_rfl) (opens_isoL (opensL_cons rfl (opens_bool (by kernel_rfl) (by kernel_rfl)) (opensL_cons rfl (opens_string (by kernel_rfl) (by kernel_rfl)) (opensL_one rfl (opens_int (by kernel_rfl) (by kernel_rfl))))) _ (fun b => ⟨⟨b.1, b.2.1, b.2.2⟩, rfl⟩))) (fun _ h => h)
def bFact (x : Fact) : Prop := bStr (x.pred) ∧ (x.args.length ≤ 9223372036854775807 ∧ ∀ y ∈ x.args, bVal (y))
theorem opens_Fact : Opens Try.prog 44 k44 bFact :=
  Opens.as (opens_struct Try.underlying44 (by kernel_rfl) (opens_isoL (opensL_cons rfl (opens_string (by kernel_rfl) (by kernel_rfl)) (opensL_one rfl (opens_slice (by kernel_rfl) (by kernel_rfl) opens_Val 28))) _ (fun b => ⟨⟨b.1, b.2⟩, rfl⟩))) (fun _ h => h)
def bStmt (x : Stmt) : Prop := True ∧ bStr (x.x) ∧ bStr (x.y) ∧ bStr (x.z) ∧ bStr (x.op) ∧ True ∧ True ∧ True
theorem opens_Stmt : Opens Try.prog 33 k33 bStmt :=
  Opens.as (opens_struct Try.underlying33 (by kernel_rfl) (opens_isoL (opensL_cons rfl (opens_int (by kernel_rfl) (by kernel_rfl)) (opensL_cons rfl (opens_string (by kernel_rfl) (by kernel_rfl)) (opensL_cons rfl (opens_string (by kernel_rfl) (by kernel_rfl)) (opensL_cons rfl (opens_string (by kernel_rfl) (by kernel_rfl)) (opensL_cons rfl (opens_string (by kernel_rfl) (by kernel_rfl)) (opensL_cons rfl (opens_int (by kernel_rfl) (by kernel_rfl)) (opensL_cons rfl (opens_int (by kernel_rfl) (by kernel_rfl)) (opensL_one rfl (opens_int (by kernel_rfl) (by kernel_rfl)))))))))) _ (fun b => ⟨⟨b.1, b.2.1, b.2.2.1, b.2.2.2.1, b.2.2.2.2.1, b.2.2.2.2.2.1, b.2.2.2.2.2.2.1, b.2.2.2.2.2.2.2⟩, rfl⟩))) (fun _ h => h)
end Go.Proofs.Ytoekfmdcplphmaa.H
/- an argument opened, and how long its rows and texts are -/
namespace Go.Proofs.Ytoekfmdcplphmaa.H
open Go.RowKit Go.Proofs.YtoekfmdcplphmaaW.PrintWords
def bWStr (s : ByteArray) : Prop := s.size ≤ 140737488351232
def fits {H : Type} (P : Program) (t : TypeId) (d : DataW H) : Prop := ∀ n ∈ d.weights P t, n ≤ reachBytes
structure OpensW {α : Type} (P : Program) (t : TypeId) (kd : Kd α) (B : α → Prop) : Prop where
  size : P.cellsOf t = kd.sz
  opened : ∀ {H : Type} {enc : TypeId × Value → H} {w : World} {base : Nat} {sp : Nat → Bool} {held : Bool} {fuel : Nat} {cs : List Value} {x : DataW H × List MemPlace},
    DataW.trod enc P w base sp held fuel t cs = some x → ∃ a, kd.K w a cs ∧ (fits P t x.1 → B a)
theorem OpensW.as {α : Type} {P : Program} {t : TypeId} {kd : Kd α} {B B' : α → Prop} (h : OpensW P t kd B) (hB : ∀ a, B a → B' a) : OpensW P t kd B' :=
  ⟨h.size, fun hx => by obtain ⟨a, ha, hb⟩ := h.opened hx; exact ⟨a, ha, fun hw => hB a (hb hw)⟩⟩
theorem opensW_bool {P : Program} {t : TypeId} (ht : P.underlying t = some .bool) (hs : P.cellsOf t = 1) : OpensW P t Kd.bool (fun _ => True) :=
  ⟨hs, fun h => by obtain ⟨b, rfl, _⟩ := DataW.trod_bool ht h; exact ⟨b, rfl, fun _ => trivial⟩⟩
theorem opensW_int {P : Program} {t : TypeId} {k : IntKind} (ht : P.underlying t = some (.int k)) (hs : P.cellsOf t = 1) : OpensW P t (Kd.int k) (fun _ => True) :=
  ⟨hs, fun h => by obtain ⟨b, rfl, _⟩ := DataW.trod_int ht h; exact ⟨b, rfl, fun _ => trivial⟩⟩
theorem opensW_string {P : Program} {t : TypeId} (ht : P.underlying t = some .string) (hs : P.cellsOf t = 1) : OpensW P t Kd.string bWStr :=
  ⟨hs, fun h => by
    obtain ⟨b, rfl, rfl, hb⟩ := DataW.trod_string ht h
    refine ⟨b, rfl, fun hw => ?_⟩
    have := hw b.data.toList.length (by simp [DataW.weights])
    rw [Array.length_toList] at this
    exact this⟩
theorem weightsAll_mem {H : Type} {P : Program} {e : TypeId} {n : Nat} : ∀ {ds : List (DataW H)} {d : DataW H}, d ∈ ds → n ∈ d.weights P e → n ∈ DataW.weightsAll P e ds
  | [], d, h, _ => by simp at h
  | x :: r, d, h, hn => by
    rw [DataW.weightsAll, List.mem_append]
    rcases List.mem_cons.1 h with rfl | h
    · exact .inl hn
    · exact .inr (weightsAll_mem h hn)
theorem opensW_slice {α : Type} {P : Program} {t e : TypeId} {kd : Kd α} {B : α → Prop} (ht : P.underlying t = some (.slice e)) (hs : P.cellsOf t = 1) (he : OpensW P e kd B) (q : Nat) {N : Nat} (hN : P.bytesOf e = N) : OpensW P t (Kd.slice q kd) (fun l => l.length * N ≤ 140737488351232 ∧ ∀ y ∈ l, B y) := by
  refine ⟨hs, fun {H enc w base sp held fuel cs x} h => ?_⟩
  rcases DataW.trod_slice ht h with ⟨rfl, rfl⟩ | ⟨a, len, cap, elems, rest, n, _, rfl, rfl, _, hl, hm, hlen, hel, _⟩
  · exact ⟨[], ⟨none, 0, rfl, Nat.le_refl _, rfl, by simp, fun h => absurd h (by simp)⟩, fun _ => ⟨by simp, by simp⟩⟩
  · obtain ⟨l, hll, hp⟩ := list_of (fun i y => (∀ d, elems[i]? = some d → fits P e d.1 → B y) ∧ ∃ c, c.length = kd.sz ∧ kd.K w y c ∧ ∀ j u, c[j]? = some u → w.cell? (a.add (i * kd.sz + j)) = some u) len (fun i hi => by
      have h1 := hel i hi
      rw [List.getElem?_eq_getElem (by omega)] at h1
      obtain ⟨cs', h2, h3⟩ := Option.bind_eq_some_iff.1 h1
      obtain ⟨y, hy, hby⟩ := he.opened h3
      obtain ⟨_, h4, h5⟩ := World.cells?_some h2
      refine ⟨y, fun d hd hw => hby ?_, cs', by rw [h4, he.size], hy, fun j u hu => ?_⟩
      · rw [List.getElem?_eq_getElem (by omega)] at hd
        rw [Option.some.inj hd]; exact hw
      · have hj : j < P.cellsOf e := by rw [← h4]; exact (List.getElem?_eq_some_iff.1 hu).1
        rw [← addr_add_add, ← he.size, h5 j hj, hu])
    subst hll
    refine ⟨l, ⟨some a, cap, rfl, hl, rfl, Nat.le_trans hl (Nat.le_trans hm (by decide)), fun _ => ⟨a, rfl, fun j p hj => (hp j p hj).2⟩⟩, fun hw => ⟨?_, fun y hy => ?_⟩⟩
    · have := hw _ (by simp only [DataW.weights, ht]; exact List.mem_cons_self)
      rw [List.length_map, List.length_map, hlen, hN] at this
      exact Nat.le_trans (Nat.mul_le_mul_right _ (Nat.le_add_right _ _)) this
    · obtain ⟨i, hi, rfl⟩ := List.mem_iff_getElem.1 hy
      have hie : i < elems.length := by omega
      refine (hp i _ (List.getElem?_eq_getElem hi)).1 elems[i] (List.getElem?_eq_getElem hie) (fun n hn => hw n ?_)
      simp only [DataW.weights, ht]
      exact List.mem_cons_of_mem _ (List.mem_append_left _ (weightsAll_mem (List.mem_map.2 ⟨elems[i], List.getElem_mem hie, rfl⟩) hn))
structure OpensLW {α : Type} (P : Program) (fs : List Field) (o : Nat) (kd : Kd α) (B : α → Prop) : Prop where
  opened : ∀ {H : Type} {enc : TypeId × Value → H} {w : World} {base : Nat} {sp : Nat → Bool} {held : Bool} {fuel : Nat} (F : Prop) (cs : List Value), cs.length = o + kd.sz →
    (∀ f ∈ fs, ∃ x, DataW.trod enc P w base sp held fuel f.type ((cs.drop f.offset).take (P.cellsOf f.type)) = some x ∧ (F → fits P f.type x.1)) → ∃ a, kd.K w a (cs.drop o) ∧ (F → B a)
theorem opensLW_one {α : Type} {P : Program} {f : Field} {o : Nat} {kd : Kd α} {B : α → Prop} (ho : f.offset = o) (h : OpensW P f.type kd B) : OpensLW P [f] o kd B := by
  refine ⟨fun {H enc w base sp held fuel} F cs hcs hf => ?_⟩
  obtain ⟨x, hx, hF⟩ := hf f (by simp)
  obtain ⟨a, ha, hb⟩ := h.opened hx
  rw [ho, h.size, List.take_of_length_le (by simp [hcs])] at ha
  exact ⟨a, ha, fun q => hb (hF q)⟩
theorem opensLW_cons {α β : Type} {P : Program} {f : Field} {fs : List Field} {o : Nat} {kd : Kd α} {kd' : Kd β} {B : α → Prop} {B' : β → Prop} (ho : f.offset = o) (h : OpensW P f.type kd B) (hr : OpensLW P fs (o + kd.sz) kd' B') : OpensLW P (f :: fs) o (Kd.pair kd kd') (fun p => B p.1 ∧ B' p.2) := by
  refine ⟨fun {H enc w base sp held fuel} F cs hcs hf => ?_⟩
  obtain ⟨x, hx, hF⟩ := hf f (by simp)
  obtain ⟨a, ha, hba⟩ := h.opened hx
  have hcs' : cs.length = o + kd.sz + kd'.sz := by rw [hcs]; show o + (kd.sz + kd'.sz) = _; omega
  obtain ⟨b, hb, hbb⟩ := hr.opened F cs hcs' (fun g hg => hf g (by simp [hg]))
  rw [ho, h.size] at ha
  refine ⟨(a, b), ⟨(cs.drop o).take kd.sz, (cs.drop (o + kd.sz)), ?_, ha, hb⟩, fun q => ⟨hba (hF q), hbb q⟩⟩
  rw [← List.drop_drop, List.take_append_drop]
theorem opensW_struct {α : Type} {P : Program} {t : TypeId} {fs : List Field} {kd : Kd α} {B : α → Prop} (ht : P.underlying t = some (.struct ⟨fs⟩)) (hs : P.cellsOf t = kd.sz) (h : OpensLW P fs 0 kd B) : OpensW P t kd B := by
  refine ⟨hs, fun {H enc w base sp held fuel cs x} hx => ?_⟩
  obtain ⟨xs, n, _, rfl, hl, hlen, hf⟩ := DataW.trod_struct ht hx
  obtain ⟨a, ha, hb⟩ := h.opened (enc := enc) (w := w) (base := base) (sp := sp) (held := held) (fuel := n) (fits P t (.agg (xs.map (·.1)))) cs (by rw [hl, hs]; omega) (fun f hfm => by
    obtain ⟨i, hi, rfl⟩ := List.mem_iff_getElem.1 hfm
    have h1 := hf i fs[i] (by simp [hi])
    have hix : i < xs.length := by rw [hlen]; simpa using hi
    refine ⟨xs[i], by rw [h1, List.getElem?_eq_getElem], fun hw n hn => hw n ?_⟩
    simp only [DataW.weights, ht]
    exact DataW.weights_mem_each (j := i) (by simp [hi]) (by rw [List.getElem?_map, List.getElem?_eq_getElem hix]; rfl) n hn)
  exact ⟨a, by simpa using ha, hb⟩
theorem opensW_isoL {α β : Type} {P : Program} {fs : List Field} {o : Nat} {kd : Kd α} {B : α → Prop} (h : OpensLW P fs o kd B) (f : β → α) (hf : ∀ b, ∃ a, f a = b) : OpensLW P fs o (Kd.iso kd f) (fun b => B (f b)) := by
  refine ⟨fun {H enc w base sp held fuel} F cs hcs hx => ?_⟩
  obtain ⟨a, ha⟩ := h.opened F cs hcs hx
  obtain ⟨b, rfl⟩ := hf a
  exact ⟨b, ha⟩
/-- an argument's value, opened -/
theorem OpensW.argB {α : Type} {P : Program} {t : TypeId} {kd : Kd α} {B : α → Prop} (h : OpensW P t kd B) {H : Type} {enc : TypeId × Value → H} {w : World} {base : Nat} {sp : Nat → Bool} {held : Bool} {v : Value} {d : DataW H} {ps : List MemPlace} {ts : List TypeId} {ds : List (DataW H)} {j : Nat}
    (hsz : (DataW.weightsEach P ts ds).all (· ≤ reachBytes) = true) (ht : ts[j]? = some t) (hd : ds[j]? = some d) (hv : DataW.Trod enc P w base sp held t v d ps) : ∃ a, kd.K w a v.cells.toList ∧ B a := by
  obtain ⟨fuel, hf⟩ := hv
  obtain ⟨a, ha, hb⟩ := h.opened hf
  refine ⟨a, ha, hb (fun n hn => ?_)⟩
  have := List.all_eq_true.1 hsz n (DataW.weights_mem_each ht hd n hn)
  simpa using this
def bWVal (x : Val) : Prop := True ∧ bWStr (x.sym) ∧ True
theorem opensW_Val : OpensW Try.prog 28 k28 bWVal :=
  OpensW.as (opensW_struct Try.underlying28 (by kernel_rfl) (opensW_isoL (opensLW_cons rfl (opensW_bool (by kernel_rfl) (by kernel_rfl)) (opensLW_cons rfl (opensW_string (by kernel_rfl) (by kernel_rfl)) (opensLW_one rfl (opensW_int (by kernel_rfl) (by kernel_rfl))))) _ (fun b => ⟨⟨b.1, b.2.1, b.2.2⟩, rfl⟩))) (fun _ h => h)
def bWFact (x : Fact) : Prop := bWStr (x.pred) ∧ (x.args.length * 32 ≤ 140737488351232 ∧ ∀ y ∈ x.args, bWVal (y))
theorem opensW_Fact : OpensW Try.prog 44 k44 bWFact :=
  OpensW.as (opensW_struct Try.underlying44 (by kernel_rfl) (opensW_isoL (opensLW_cons rfl (opensW_string (by kernel_rfl) (by kernel_rfl)) (opensLW_one rfl (opensW_slice (by kernel_rfl) (by kernel_rfl) opensW_Val 28 (by kernel_rfl)))) _ (fun b => ⟨⟨b.1, b.2⟩, rfl⟩))) (fun _ h => h)
def bWStmt (x : Stmt) : Prop := True ∧ bWStr (x.x) ∧ bWStr (x.y) ∧ bWStr (x.z) ∧ bWStr (x.op) ∧ True ∧ True ∧ True
theorem opensW_Stmt : OpensW Try.prog 33 k33 bWStmt :=
  OpensW.as (opensW_struct Try.underlying33 (by kernel_rfl) (opensW_isoL (opensLW_cons rfl (opensW_int (by kernel_rfl) (by kernel_rfl)) (opensLW_cons rfl (opensW_string (by kernel_rfl) (by kernel_rfl)) (opensLW_cons rfl (opensW_string (by kernel_rfl) (by kernel_rfl)) (opensLW_cons rfl (opensW_string (by kernel_rfl) (by kernel_rfl)) (opensLW_cons rfl (opensW_string (by kernel_rfl) (by kernel_rfl)) (opensLW_cons rfl (opensW_int (by kernel_rfl) (by kernel_rfl)) (opensLW_cons rfl (opensW_int (by kernel_rfl) (by kernel_rfl)) (opensLW_one rfl (opensW_int (by kernel_rfl) (by kernel_rfl)))))))))) _ (fun b => ⟨⟨b.1, b.2.1, b.2.2.1, b.2.2.2.1, b.2.2.2.2.1, b.2.2.2.2.2.1, b.2.2.2.2.2.2.1, b.2.2.2.2.2.2.2⟩, rfl⟩))) (fun _ h => h)
end Go.Proofs.Ytoekfmdcplphmaa.H
/- FactsMore: a statement more, behind a return, that goes nowhere else, adds its own facts alone. Conditions: the statement's own. -/
namespace Go.Proofs.Ytoekfmdcplphmaa.H
open Go.RowKit Go.Proofs.YtoekfmdcplphmaaW.PrintWords
theorem dd_strict : ∀ {l : List Fact}, bareL l = true → l.Pairwise (fun x y => cmpF x y ≤ 0) → (dd l).Pairwise fun x y => cmpF x y < 0
  | [], _, _ => List.Pairwise.nil
  | [a], _, _ => List.pairwise_singleton _ _
  | a :: b :: l, hb, h => by
    have hbb := hb
    unfold bareL at hbb
    rw [List.all_cons, List.all_cons, Bool.and_eq_true, Bool.and_eq_true] at hbb
    have h2 := List.pairwise_cons.1 h
    have ih := dd_strict (l := b :: l) (by unfold bareL; rw [List.all_cons, hbb.2.1, hbb.2.2]; rfl) h2.2
    rw [dd]
    split
    · exact ih
    · rename_i hne
      refine List.pairwise_cons.2 ⟨fun x hx => ?_, ih⟩
      have hab : cmpF a b < 0 := by
        have q := h2.1 b (by simp)
        have q2 : cmpF a b ≠ 0 := fun e => hne ((cmpF_zero hbb.1 hbb.2.1).1 e)
        omega
      rcases List.mem_cons.1 (mem_dd.1 hx) with rfl | hx
      · exact hab
      · exact ordF.lt' hab ((List.pairwise_cons.1 h2.2).1 x hx)
theorem factsL_bare (s : List Stmt) : bareL (factsL s) = true := by
  unfold bareL
  rw [List.all_eq_true]
  exact fun f hf => (factsL_ok hf).1
theorem ofF_strict (s : List Stmt) : (ofF s).Pairwise fun x y => cmpF x y < 0 := dd_strict (bareL_sort (factsL_bare s)) (sortF_pw _)
theorem ofF_nodup (s : List Stmt) : (ofF s).Nodup := (ofF_strict s).imp fun {a b} h => by rintro rfl; have := ordF.self a; omega
def sk (x : ByteArray) : Stmt := ⟨6, noS, x, noS, noS, 0, 0, 0⟩
theorem at_mr {s : List Stmt} {x : ByteArray} {n : Int} (h0 : 0 ≤ n) (h1 : n < (s.length : Int)) : at_ (s ++ [sk x]) n = at_ s n := by
  unfold at_ rd_T33
  rw [List.getD_eq_getElem?_getD, List.getD_eq_getElem?_getD, List.getElem?_append_left (by omega)]
theorem at_new {s : List Stmt} {x : ByteArray} : at_ (s ++ [sk x]) (s.length : Int) = sk x := by
  unfold at_ rd_T33
  rw [Int.toNat_natCast, List.getD_eq_getElem?_getD, List.getElem?_append_right (Nat.le_refl _)]
  simp
section
variable (s : List Stmt) (x : ByteArray) (hs : s.length ≤ 60) (hlast : 0 < s.length → (at_ s ((s.length : Int) - 1)).kind = 9) (hab : ∀ n : Int, 0 ≤ n → n < (s.length : Int) → (at_ s n).a ≠ (s.length : Int) ∧ (at_ s n).b ≠ (s.length : Int))
include hs hlast hab
theorem nxt_more {n : Int} (h0 : 0 ≤ n) (h1 : n < (s.length : Int)) : nxt (s ++ [sk x]) n = nxt s n := by
  unfold nxt
  have hl : (s ++ [sk x]).length = s.length + 1 := by simp
  rw [if_pos (show 0 ≤ n ∧ n < ((s ++ [sk x]).length : Int) from ⟨h0, by rw [hl]; omega⟩), if_pos (show 0 ≤ n ∧ n < (s.length : Int) from ⟨h0, h1⟩), at_mr h0 h1, hl]
  refine List.filter_congr fun m hm => ?_
  have hne : m ≠ (s.length : Int) := by
    obtain ⟨ha, hb⟩ := hab n h0 h1
    unfold nxtRaw srtI2 at hm
    split at hm
    · split at hm
      · rcases List.mem_cons.1 hm with rfl | hm
        · exact ha
        · rw [List.mem_singleton] at hm; subst hm; exact hb
      split at hm
      · rw [List.mem_singleton] at hm; subst hm; exact ha
      · rcases List.mem_cons.1 hm with rfl | hm
        · exact hb
        · rw [List.mem_singleton] at hm; subst hm; exact ha
    split at hm
    · rw [List.mem_singleton] at hm; subst hm; exact ha
    split at hm
    · simp at hm
    · rename_i k7 k8 k9
      rw [List.mem_singleton] at hm
      subst hm
      intro e
      have : n = (s.length : Int) - 1 := by unfold wrap64 at e; omega
      subst this
      exact k9 (hlast (by omega))
  unfold withinB
  rw [Bool.eq_iff_iff]
  simp
  omega
theorem one_more {n : Int} (h0 : 0 ≤ n) (h1 : n < (s.length : Int)) : oneL (s ++ [sk x]) n = oneL s n := by
  unfold oneL
  rw [nxt_more s x hs hlast hab h0 h1, at_mr h0 h1]
theorem one_new : oneL (s ++ [sk x]) (s.length : Int) = [fNode s.length, fUse s.length x, fSink s.length x] := by
  have hn : nxt (s ++ [sk x]) (s.length : Int) = [] := by
    unfold nxt
    split
    · rw [at_new]
      have e : nxtRaw (sk x) (s.length : Int) = [wrap64 ((s.length : Int) + 1)] := rfl
      rw [e, List.filter_cons, if_neg, List.filter_nil]
      unfold withinB wrap64
      simp
      omega
    · rfl
  unfold oneL
  rw [hn, at_new]
  simp [sk, usesS, useF, defF, defN]
theorem facts_more : factsL (s ++ [sk x]) = factsL s ++ [fNode s.length, fUse s.length x, fSink s.length x] := by
  unfold factsL
  rw [show (s ++ [sk x]).length = s.length + 1 by simp, List.range_succ, List.flatMap_append]
  congr 1
  · have : ∀ l : List Nat, (∀ m ∈ l, m < s.length) → (l.flatMap fun m : Nat => oneL (s ++ [sk x]) (m : Int)) = l.flatMap fun m : Nat => oneL s (m : Int) := by
      intro l hl
      induction l with
      | nil => rfl
      | cons a l ih =>
        rw [List.flatMap_cons, List.flatMap_cons, ih fun m hm => hl m (by simp [hm]), one_more s x hs hlast hab (by omega) (by have := hl a (by simp); omega)]
    exact this _ fun m hm => List.mem_range.1 hm
  · rw [List.flatMap_cons, List.flatMap_nil, List.append_nil, one_new s x hs hlast hab]
theorem len_more : (ofF (s ++ [sk x])).length = (ofF s).length + 3 := by
  have hp : (ofF (s ++ [sk x])).Perm (ofF s ++ [fNode s.length, fUse s.length x, fSink s.length x]) := by
    refine (List.perm_ext_iff_of_nodup (ofF_nodup _) ?_).2 fun f => ?_
    · rw [List.nodup_append]
      refine ⟨ofF_nodup s, ?_, ?_⟩
      · simp
      · intro a ha b hb e
        subst e
        have hm := mem_ofF.1 ha
        have : a.args.head? = some (numV s.length) := by
          simp only [List.mem_cons, List.not_mem_nil, or_false] at hb
          rcases hb with rfl | rfl | rfl <;> rfl
        have := (mem_at this).1 hm
        omega
    · rw [mem_ofF, facts_more s x hs hlast hab, List.mem_append, List.mem_append, mem_ofF]
  have := hp.length_eq
  simpa using this
end
theorem ok_facts {s : List Stmt} (hB : ∀ st ∈ s, bWStmt st) {f : Fact} (h : f ∈ factsL s) : okF f := by
  obtain ⟨n, h0, h1, h⟩ := mem_factsL.1 h
  have hst : at_ s n ∈ s := by
    unfold at_ rd_T33
    rw [List.getD_eq_getElem?_getD, List.getElem?_eq_getElem (by omega)]
    exact List.getElem_mem _
  have hb := hB _ hst
  have hx : (at_ s n).x.size ≤ 140737488351232 ∧ (at_ s n).y.size ≤ 140737488351232 ∧ (at_ s n).z.size ≤ 140737488351232 := ⟨hb.2.1, hb.2.2.1, hb.2.2.2.1⟩
  have hnum : ∀ m : Int, okV (numV m) := fun m => by unfold okV; simp [ByteArray.size]
  have hsym : ∀ t : ByteArray, t.size ≤ 140737488351232 → okV (symV t) := fun t ht => by unfold okV; show t.size ≤ _; omega
  have hu : ∀ y ∈ usesS (at_ s n), y.size ≤ 140737488351232 := fun y hy => by
    unfold usesS at hy
    split at hy
    · have hm : y ∈ [(at_ s n).y, (at_ s n).z] := mem_setS.1 hy
      simp at hm
      rcases hm with rfl | rfl
      · exact hx.2.1
      · exact hx.2.2
    split at hy
    · rw [List.mem_singleton] at hy; subst hy; exact hx.2.1
    · simp at hy
  have hd : (defN (at_ s n)).1.size ≤ 140737488351232 := by
    unfold defN
    split
    · exact hx.1
    · simp [ByteArray.size]
  rcases mem_oneL.1 h with rfl | ⟨m', hm, rfl⟩ | ⟨y, hy, rfl⟩ | ⟨k, y, hy, rfl⟩ | ⟨h1, rfl⟩ | ⟨h1, k, rfl⟩ | ⟨h1, k, y, hy, rfl⟩
  · exact ⟨by simp [ByteArray.size], by simp, fun v hv => by simp at hv; subst hv; exact hnum n⟩
  · exact ⟨by simp [ByteArray.size], by simp, fun v hv => by simp at hv; rcases hv with rfl | rfl <;> exact hnum _⟩
  · exact ⟨by simp [ByteArray.size], by simp, fun v hv => by simp at hv; rcases hv with rfl | rfl; exact hnum n; exact hsym y (hu y hy)⟩
  · exact ⟨by simp [ByteArray.size], by simp, fun v hv => by simp at hv; rcases hv with rfl | rfl; exact hnum n; exact hsym y (hu y hy)⟩
  · exact ⟨by simp [ByteArray.size], by simp, fun v hv => by simp at hv; rcases hv with rfl | rfl; exact hnum n; exact hsym _ hd⟩
  · exact ⟨by simp [ByteArray.size], by simp, fun v hv => by simp at hv; rcases hv with rfl | rfl; exact hnum n; exact hsym _ hd⟩
  · exact ⟨by simp [ByteArray.size], by simp, fun v hv => by simp at hv; rcases hv with rfl | rfl | rfl; exact hnum n; exact hsym _ hd; exact hsym y (hu y hy)⟩
section
variable (s : List Stmt) (x : ByteArray)
theorem More_l1 (a b : List Fact) (hl : a.length ≤ 10000) (hb : b.length ≤ 10000) (hoa : ∀ f ∈ a, okF f) (hob : ∀ f ∈ b, okF f) (hsub : ∀ f ∈ a, hasF b f = true) (hlen : b.length = a.length + 3) (m : Int)
    (hN : facts_Has.f b ⟨#[110, 111, 100, 101]⟩ [numV m] = some true) (hU : facts_Has.f b ⟨#[117, 115, 101]⟩ [numV m, symV x] = some true) (hS : facts_Has.f b ⟨#[115, 105, 110, 107]⟩ [numV m, symV x] = some true) :
    ∀ (r : List Fact) (i : Nat), a.drop i = r → Ev (fun k => lambrequinlaw21_FactsMore.l1 k x true a b i false noS m) true
  | [], i, h => by
    refine Ev.step (fun k => by rw [lambrequinlaw21_FactsMore.l1]) ?_
    refine Ev.neg (drop_end h) ?_
    refine Ev.pos rfl ?_
    refine Ev.pos (by unfold wrap64; omega) ?_
    refine Ev.pure hN ?_
    refine Ev.pos rfl ?_
    refine Ev.pure rfl ?_
    refine Ev.pure hU ?_
    refine Ev.pos rfl ?_
    refine Ev.pure rfl ?_
    refine Ev.pure hS ?_
    exact Ev.now _
  | y :: r, i, h => by
    obtain ⟨g1, g2, g3, g4, g5⟩ := drop_more h (by omega)
    have hy : y ∈ a := List.mem_of_mem_drop (i := i) (by rw [h]; simp)
    refine Ev.step (fun k => by rw [lambrequinlaw21_FactsMore.l1]) ?_
    refine Ev.pos g1 ?_
    refine Ev.pos g2 ?_
    rw [show rd_T44 a i = y from g3 _, g5]
    refine Ev.bind (rHas_ev b y (by omega) hob (hoa y hy)) ?_
    refine Ev.pos (hsub y hy) ?_
    exact More_l1 a b hl hb hoa hob hsub hlen m hN hU hS r (i + 1) g4
theorem More_l0 (hs : s.length ≤ 60) (hlast : 0 < s.length → (at_ s ((s.length : Int) - 1)).kind = 9) (hB : ∀ st ∈ s, bWStmt st) (hx : x.size ≤ 140737488351232) : ∀ (d i : Nat), i + d = s.length → (∀ n : Int, 0 ≤ n → n < (i : Int) → (at_ s n).a ≠ (s.length : Int) ∧ (at_ s n).b ≠ (s.length : Int)) →
    Ev (fun k => lambrequinlaw21_FactsMore.l0 k s x true i) true
  | 0, i, h, hab => by
    have hi : i = s.length := by omega
    subst hi
    have hlenM := len_more s x hs hlast hab
    have hfm := facts_more s x hs hlast hab
    have hlm : (ofF s).length ≤ 2000 := by
      have h1 : (ofF s).length ≤ (factsL s).length := by unfold ofF; exact Nat.le_trans (dd_len _) (by rw [sortF_len]; exact Nat.le_refl _)
      have h2 : ∀ l : List Nat, (l.flatMap fun m : Nat => oneL s (m : Int)).length ≤ 20 * l.length := by
        intro l
        induction l with
        | nil => simp
        | cons a l ih => rw [List.flatMap_cons, List.length_append, List.length_cons]; have := oneL_len s (a : Int); omega
      have h3 := h2 (List.range s.length)
      rw [List.length_range] at h3
      unfold factsL at h1
      omega
    have hB' : ∀ st ∈ s ++ [sk x], bWStmt st := by
      intro st hst
      rcases List.mem_append.1 hst with hst | hst
      · exact hB st hst
      · rw [List.mem_singleton] at hst
        subst hst
        exact ⟨trivial, by simp [bWStr, sk, ByteArray.size], hx, by simp [bWStr, sk, ByteArray.size], by simp [bWStr, sk, ByteArray.size], trivial, trivial, trivial⟩
    refine Ev.step (fun k => by rw [lambrequinlaw21_FactsMore.l0]) ?_
    refine Ev.neg (by omega) ?_
    refine Ev.bind (of_ev s (by omega)) ?_
    refine Ev.pure rfl ?_
    refine Ev.pos (by simp; omega) ?_
    refine Ev.pure rfl ?_
    refine Ev.pos (by simp; omega) ?_
    rw [List.nil_append]
    refine Ev.bind (of_ev (s ++ [sk x]) (by simp; omega)) ?_
    refine Ev.pure rfl ?_
    have hh : ∀ f : Fact, bareF f = true → f ∈ factsL (s ++ [sk x]) → hasF (ofF (s ++ [sk x])) f = true := fun f hb hf => by rw [has_eq _ _ hb, decide_eq_true_iff]; exact hf
    refine More_l1 x (ofF s) (ofF (s ++ [sk x])) (by omega) (by omega) (fun f hf => ok_facts hB (mem_ofF.1 hf)) (fun f hf => ok_facts hB' (mem_ofF.1 hf)) (fun f hf => ?_) hlenM (s.length : Int) ?_ ?_ ?_ (ofF s) 0 rfl
    · exact hh f (factsL_ok (mem_ofF.1 hf)).1 (by rw [hfm]; exact List.mem_append_left _ (mem_ofF.1 hf))
    · exact HasOf (b := true) rfl (by rw [hfm]; simp)
    · exact HasOf (b := true) rfl (by rw [hfm]; simp)
    · exact HasOf (b := true) rfl (by rw [hfm]; simp)
  | d + 1, i, h, hab => by
    refine Ev.step (fun k => by rw [lambrequinlaw21_FactsMore.l0]) ?_
    refine Ev.pos (by omega) ?_
    refine Ev.pos (by omega) ?_
    by_cases ha : (at_ s i).a = (s.length : Int)
    · exact Ev.pos ha (Ev.now _)
    · refine Ev.neg ha ?_
      by_cases hb : (at_ s i).b = (s.length : Int)
      · exact Ev.pos hb (Ev.now _)
      · refine Ev.neg hb ?_
        rw [wrap_up (by omega)]
        refine More_l0 hs hlast hB hx d (i + 1) (by omega) fun n h0 h1 => ?_
        rcases Int.lt_or_eq_of_le (show n ≤ (i : Int) by omega) with q | q
        · exact hab n h0 q
        · subst q; exact ⟨ha, hb⟩
end
theorem FactsMore_pure (s : List Stmt) (_hl : s.length * 96 ≤ 140737488351232) (hB : s.length * 96 ≤ 140737488351232 ∧ ∀ y ∈ s, bWStmt y) (x : ByteArray) (hx : x.size ≤ 140737488351232) : ∃ k, lambrequinlaw21_FactsMore.f k s x = some true := by
  refine Ev.rounds ?_
  unfold lambrequinlaw21_FactsMore.f
  refine Ev.bind shown21_ev ?_
  have hout : Ev (fun k => lambrequinlaw21_FactsMore.j0 k s x true true) true := by
    refine Ev.step (fun k => by rw [lambrequinlaw21_FactsMore.j0]) ?_
    exact Ev.pos rfl (Ev.now _)
  by_cases hs : (s.length : Int) > 60
  · exact Ev.pos hs hout
  · refine Ev.neg hs ?_
    by_cases h0 : (s.length : Int) = 0
    · exact Ev.pos h0 hout
    · refine Ev.neg h0 ?_
      have hw : wrap64 ((s.length : Int) - 1) = (s.length : Int) - 1 := by unfold wrap64; omega
      rw [hw]
      refine Ev.pos (by omega) ?_
      refine Ev.pos (by omega) ?_
      by_cases h9 : (at_ s ((s.length : Int) - 1)).kind = 9
      · have e : (((rd_T33 s ((s.length : Int) - 1)).kind) != 9) = false := by
          have h9' : (rd_T33 s ((s.length : Int) - 1)).kind = 9 := h9
          rw [h9']; rfl
        rw [e]
        refine Ev.step (fun k => by rw [lambrequinlaw21_FactsMore.j0]) ?_
        refine Ev.neg (by decide) ?_
        exact More_l0 s x (by omega) (fun _ => h9) hB.2 hx s.length 0 (by omega) (fun n h0 h1 => by omega)
      · have e : (((rd_T33 s ((s.length : Int) - 1)).kind) != 9) = true := by
          have h9' : ¬ (rd_T33 s ((s.length : Int) - 1)).kind = 9 := h9
          simpa using h9'
        rw [e]
        exact hout
theorem FactsMore_walk (w : World) (x0 : (List Stmt)) (A0 : Option Addr) (c0 : Nat) (l0 : x0.length ≤ c0) (g0 : Kd.C k33 w A0 x0.length x0) (y0 : x0.length * 96 ≤ 140737488351232) (b0 : x0.length * 96 ≤ 140737488351232 ∧ ∀ y ∈ x0, bWStmt (y)) (a1 : ByteArray) (w1 : a1.size ≤ 140737488351232) :
    Calls Try.prog 6 #[.slice A0 x0.length c0, .string a1] w fun e w' => e = .returned (.bool true) ∧ Below w.heap.size w w' := by
  obtain ⟨k, h⟩ := FactsMore_pure x0 y0 b0 a1 w1
  exact (lambrequinlaw21_FactsMore.calls k A0 c0 x0 a1 true w g0 l0 h).mono (fun e w' h' => ⟨h'.1, h'.2⟩)
end Go.Proofs.Ytoekfmdcplphmaa.H
namespace Go.Proofs.Ytoekfmdcplphmaa.factsMore
open Go.ChangeShapes Go.WideShapes Go.ChangeAt Go.RowKit Go.Proofs.Ytoekfmdcplphmaa.H Go.Proofs.YtoekfmdcplphmaaW.PrintWords
open Go.ChangeMaps (open_string shut_string)
theorem own : ownKnob Try.prog.godebug = none := by kernel_rfl
theorem laidOut : laidOutB Try.prog = true := by kernel_rfl
set_option maxRecDepth 100000 in
theorem lifted (os : Os) (started : os.Started) (H : Type) (enc : TypeId × Value → H) :
    ReturnsInHanded {} Try.checked os 6 .any (Rows.factsMoreSpec.pre6 enc Try.prog Try.f6 Rows.factsMoreRow.domain false) (Rows.factsMoreSpec.post enc Try.prog Try.f6 false true false false) := by
  refine returnsInHanded_of_change_sized (C := Try.checked) own started (by kernel_rfl) Try.func6
    (ChangeSpec.witness6 (enc := enc) (C := Try.checked) false ⟨#[], #[.slice none 0 0, .string ⟨#[]⟩], []⟩ 8 (by kernel_rfl) (by kernel_rfl) (by kernel_rfl) (by kernel_rfl)) ?_
  intro W base args ds gs before hval0 hW hcnd hsz0 _
  have hsz : (DataW.weightsEach Try.prog (Try.f6.params.toList ++ Rows.factsMoreSpec.plain.varTypes Try.prog) (ds ++ gs)).all (· ≤ reachBytes) = true := hsz0
  have hval : ∀ (j : Nat) t v, Try.f6.params[j]? = some t → args[j]? = some v → Value.okWide Try.prog W .any base t v := hval0
  have hW' := hW
  obtain ⟨p, q, hA0, hV, rfl, hfz, hnd⟩ := hW
  have hA : DataW.TrodAll enc Try.prog W 0 (fun _ => true) true Try.f6.params.toList args.toList ds p := hA0
  rw [Try.params6] at hA hval hsz
  obtain ⟨v0, vs0, d0, ds0, p0, q0, hargs, rfl, rfl, h0, r0⟩ := trodAll_cons hA
  obtain ⟨v1, vs1, d1, ds1, p1, q1, rfl, rfl, rfl, h1, r1⟩ := trodAll_cons r0
  obtain ⟨rfl, rfl, rfl⟩ := trodAll_nil r1
  obtain rfl : args = #[v0, v1] := by cases args; simp_all
  obtain ⟨rfl, rfl⟩ := trodVars_none hV
  have k0 := h0
  have lt0 : ∀ x ∈ p0, x.block < W.heap.size := by obtain ⟨m, hm⟩ := k0; exact DataW.trod_lt m _ _ _ hm
  obtain ⟨a0, len0, cap0, rfl⟩ := okWide_slice Try.underlying22 (hval 0 22 v0 rfl rfl)
  have y0 := sized_row hsz (j := 0) (t := 22) rfl rfl Try.underlying22 (B := 96) (by kernel_rfl) h0
  obtain ⟨x0, ⟨A0, c0, e0, l0, g0⟩, b0⟩ := (opensW_slice Try.underlying22 (by kernel_rfl) opensW_Stmt 33 (by kernel_rfl)).argB hsz (j := 0) rfl rfl k0
  replace b0 : x0.length * 96 ≤ 140737488351232 ∧ ∀ y ∈ x0, bWStmt (y) := b0
  simp only [Value.cells, List.cons.injEq, and_true, Value.slice.injEq] at e0
  obtain ⟨rfl, rfl, rfl⟩ := e0
  obtain ⟨a1, rfl, rfl, rfl, y1⟩ := open_string Try.underlying9 (hval 1 9 v1 rfl rfl) h1
  have w1 : a1.size ≤ 140737488351232 := by
    have z := sized_string hsz (j := 1) (t := 9) rfl rfl
    rw [Array.length_toList] at z
    exact z
  clear hA0 hval0 hsz0 hsz
  refine (FactsMore_walk W x0 a0 cap0 l0 g0 y0 b0 a1 w1).mono fun e W' ⟨he, bel⟩ => ?_
  subst he
  exact ⟨_, rfl, _, _, _, [], _, [], hW', trodAll_mk1 (shut_bool Try.underlying4 _), (trodAll_cons_mk (Below.trod laidOut (by kernel_rfl) (of_decide_eq_true (by kernel_rfl)) k0 bel lt0) (trodAll_cons_mk (shut_string Try.underlying9 y1) trodAll_mk0)), rfl, bel.frame _, fun h => by cases h⟩
theorem over : Rows.factsMoreRow.holds Try.pinned (OpenSpec.ofChange Rows.factsMoreSpec) :=
  OpenClaim.holds_of_wide 6 Try.f6 rfl rfl rfl rfl rfl rfl rfl ⟨rfl, rfl, rfl, rfl, rfl⟩ rfl rfl rfl rfl rfl (by kernel_rfl) Try.func6 (by kernel_rfl)
    (of_decide_eq_true (by kernel_rfl)) (by unfold Func.isWrapper; first | (rw [if_pos (by decide +kernel)]; kernel_rfl) | (rw [if_neg (by decide +kernel)]; exact ⟨rfl, rfl⟩))
    (fun os started H enc _ => lifted os started H enc)
theorem proved : Rows.FactsMoreSaid := over
end Go.Proofs.Ytoekfmdcplphmaa.factsMore
namespace Go.Proofs.Ytoekfmdcplphmaa
theorem factsMore_holds : Rows.FactsMoreSaid := factsMore.proved
#print axioms factsMore_holds
end Go.Proofs.Ytoekfmdcplphmaa

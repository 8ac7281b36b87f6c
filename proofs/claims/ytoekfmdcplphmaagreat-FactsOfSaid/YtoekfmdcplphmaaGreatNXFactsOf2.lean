/- RowFactsOf of the seat's law FactsOf: the law holds, under the statement's own conditions. -/
import Derived.Test.YtoekfmdcplphmaaGreatNXFactsOf
import Derived.Test.YtoekfmdcplphmaaGreatNXFactsOf1
import Derived.Deep.DeepMust
import Derived.Deep.RegionHeld3
import Derived.Deep.DrawnRows
import Derived.Deep.QuietTactic
import Derived.BigQuiet
import Derived.Test.YtoekfmdcplphmaaGreatNW
set_option linter.unusedVariables false
set_option linter.unusedSimpArgs false
set_option linter.unusedSectionVars false
namespace Go.Proofs.YtoekfmdcplphmaaGreat.H
open Go.RowKit Go.Proofs.YtoekfmdcplphmaaGreatW.PrintWords Go.Proofs.YtoekfmdcplphmaaGreatW.PrintLast Go.Proofs.YtoekfmdcplphmaaGreatW.PrintMore
attribute [local go_sem] max2_int min2_int max_two min_two max_three min_three max_four min_four
def cmp_Compare_string.f (a0 : ByteArray) (a1 : ByteArray) : Option (Int) := (cmp_isNaN_string.f a0).bind fun t101 => ((cmp_isNaN_string.f a1).bind fun t102 => (if t101 = true then (if t102 = true then (some 0) else (some (-1))) else (if t102 = true then (some 1) else (if (Op.bytesLess a0.toList a1.toList) = true then (some (-1)) else (if (Op.bytesLess a1.toList a0.toList) = true then (some 1) else (some 0))))))
set_option maxHeartbeats 8000000 in
set_option maxRecDepth 100000 in
theorem cmp_Compare_string.calls (a0 : ByteArray) (a1 : ByteArray) (r : Int) (w : World) (h : cmp_Compare_string.f a0 a1 = some r) :
  Calls Tryz.prog 41 #[.string a0, .string a1] w fun e w' => e = .returned (.int .i64 r) ∧ Drawn0 w w' := by
 have H : ((cmp_isNaN_string.f a0).bind fun t101 => ((cmp_isNaN_string.f a1).bind fun t102 => (if t101 = true then (if t102 = true then (some 0) else (some (-1))) else (if t102 = true then (some 1) else (if (Op.bytesLess a0.toList a1.toList) = true then (some (-1)) else (if (Op.bytesLess a1.toList a0.toList) = true then (some 1) else (some 0))))))) = some r := h
 clear h
 replace H := Option.bind_eq_some_iff.mp H
 obtain ⟨t101, A30, H⟩ := H
 replace H : ((cmp_isNaN_string.f a1).bind fun t102 => (if t101 = true then (if t102 = true then (some 0) else (some (-1))) else (if t102 = true then (some 1) else (if (Op.bytesLess a0.toList a1.toList) = true then (some (-1)) else (if (Op.bytesLess a1.toList a0.toList) = true then (some 1) else (some 0)))))) = some r := H
 have A3 := am A30
 clear A30
 replace H := Option.bind_eq_some_iff.mp H
 obtain ⟨t102, A40, H⟩ := H
 replace H : (if t101 = true then (if t102 = true then (some 0) else (some (-1))) else (if t102 = true then (some 1) else (if (Op.bytesLess a0.toList a1.toList) = true then (some (-1)) else (if (Op.bytesLess a1.toList a0.toList) = true then (some 1) else (some 0))))) = some r := H
 have A4 := am A40
 clear A40
 by_cases c5 : t101 = true
 ·subst c5
  have H1 : (if t102 = true then (some 0) else (some (-1))) = some r := by rw [if_pos rfl] at H; exact H
  clear H
  have H := H1
  clear H1
  by_cases c6 : t102 = true
  ·subst c6
   have H1 : (some 0) = some r := by rw [if_pos rfl] at H; exact H
   clear H
   have H := H1
   clear H1
   obtain rfl := Option.some.inj H
   go_enter Tryz.func41, Tryz.ntmps41
   go_wp2_with (first | ((with_reducible refine gate_callee (f := 55) rfl ?_); refine goesL_ (some 8) rfl rfl Tryz.func55 (by kernel_rfl) rfl #[.string a0] rfl gl_ ?_; (with_reducible refine (cmp_isNaN_string.calls a0 true _ A3.out).mono ?_); rintro e w' ⟨rfl, ⟨nd, rfl⟩⟩; refine ⟨_, rfl, ?_⟩) | ((with_reducible refine gate_callee (f := 55) rfl ?_); refine goesL_ (some 10) rfl rfl Tryz.func55 (by kernel_rfl) rfl #[.string a1] rfl gl_ ?_; (with_reducible refine (cmp_isNaN_string.calls a1 true _ A4.out).mono ?_); rintro e w' ⟨rfl, ⟨nd, rfl⟩⟩; refine ⟨_, rfl, ?_⟩))
   go_ret
   exact ⟨by first | rfl | (simp; done) | (simp [*]; done), by repeat (first | exact Drawn0.refl _ | apply Drawn0.step)⟩
  replace c6 := Bool.eq_false_iff.mpr c6
  subst c6
  have H1 : (some (-1)) = some r := by rw [if_neg (show ¬ (false = true) by decide)] at H; exact H
  clear H
  have H := H1
  clear H1
  obtain rfl := Option.some.inj H
  go_enter Tryz.func41, Tryz.ntmps41
  go_wp2_with (first | ((with_reducible refine gate_callee (f := 55) rfl ?_); refine goesL_ (some 8) rfl rfl Tryz.func55 (by kernel_rfl) rfl #[.string a0] rfl gl_ ?_; (with_reducible refine (cmp_isNaN_string.calls a0 true _ A3.out).mono ?_); rintro e w' ⟨rfl, ⟨nd, rfl⟩⟩; refine ⟨_, rfl, ?_⟩) | ((with_reducible refine gate_callee (f := 55) rfl ?_); refine goesL_ (some 10) rfl rfl Tryz.func55 (by kernel_rfl) rfl #[.string a1] rfl gl_ ?_; (with_reducible refine (cmp_isNaN_string.calls a1 false _ A4.out).mono ?_); rintro e w' ⟨rfl, ⟨nd, rfl⟩⟩; refine ⟨_, rfl, ?_⟩))
  go_ret
  exact ⟨by first | rfl | (simp; done) | (simp [*]; done), by repeat (first | exact Drawn0.refl _ | apply Drawn0.step)⟩
 replace c5 := Bool.eq_false_iff.mpr c5
 subst c5
 have H1 : (if t102 = true then (some 1) else (if (Op.bytesLess a0.toList a1.toList) = true then (some (-1)) else (if (Op.bytesLess a1.toList a0.toList) = true then (some 1) else (some 0)))) = some r := by rw [if_neg (show ¬ (false = true) by decide)] at H; exact H
 clear H
 have H := H1
 clear H1
 by_cases c7 : t102 = true
 ·subst c7
  have H1 : (some 1) = some r := by rw [if_pos rfl] at H; exact H
  clear H
  have H := H1
  clear H1
  obtain rfl := Option.some.inj H
  go_enter Tryz.func41, Tryz.ntmps41
  go_wp2_with (first | ((with_reducible refine gate_callee (f := 55) rfl ?_); refine goesL_ (some 8) rfl rfl Tryz.func55 (by kernel_rfl) rfl #[.string a0] rfl gl_ ?_; (with_reducible refine (cmp_isNaN_string.calls a0 false _ A3.out).mono ?_); rintro e w' ⟨rfl, ⟨nd, rfl⟩⟩; refine ⟨_, rfl, ?_⟩) | ((with_reducible refine gate_callee (f := 55) rfl ?_); refine goesL_ (some 10) rfl rfl Tryz.func55 (by kernel_rfl) rfl #[.string a1] rfl gl_ ?_; (with_reducible refine (cmp_isNaN_string.calls a1 true _ A4.out).mono ?_); rintro e w' ⟨rfl, ⟨nd, rfl⟩⟩; refine ⟨_, rfl, ?_⟩))
  go_ret
  exact ⟨by first | rfl | (simp; done) | (simp [*]; done), by repeat (first | exact Drawn0.refl _ | apply Drawn0.step)⟩
 replace c7 := Bool.eq_false_iff.mpr c7
 subst c7
 have H1 : (if (Op.bytesLess a0.toList a1.toList) = true then (some (-1)) else (if (Op.bytesLess a1.toList a0.toList) = true then (some 1) else (some 0))) = some r := by rw [if_neg (show ¬ (false = true) by decide)] at H; exact H
 clear H
 have H := H1
 clear H1
 by_cases c8 : (Op.bytesLess a0.toList a1.toList) = true
 ·rw [if_pos c8] at H
  have c8b0 : (Op.bytesLess a0.toList a1.toList) = true := c8
  clear c8
  obtain rfl := Option.some.inj H
  go_enter Tryz.func41, Tryz.ntmps41
  go_wp2_with (first | ((with_reducible refine gate_callee (f := 55) rfl ?_); refine goesL_ (some 8) rfl rfl Tryz.func55 (by kernel_rfl) rfl #[.string a0] rfl gl_ ?_; (with_reducible refine (cmp_isNaN_string.calls a0 false _ A3.out).mono ?_); rintro e w' ⟨rfl, ⟨nd, rfl⟩⟩; refine ⟨_, rfl, ?_⟩) | ((with_reducible refine gate_callee (f := 55) rfl ?_); refine goesL_ (some 10) rfl rfl Tryz.func55 (by kernel_rfl) rfl #[.string a1] rfl gl_ ?_; (with_reducible refine (cmp_isNaN_string.calls a1 false _ A4.out).mono ?_); rintro e w' ⟨rfl, ⟨nd, rfl⟩⟩; refine ⟨_, rfl, ?_⟩))
  go_ret
  exact ⟨by first | rfl | (simp; done) | (simp [*]; done), by repeat (first | exact Drawn0.refl _ | apply Drawn0.step)⟩
 rw [if_neg c8] at H
 have c8b0 : (Op.bytesLess a0.toList a1.toList) = false := by simpa using c8
 clear c8
 by_cases c9 : (Op.bytesLess a1.toList a0.toList) = true
 ·rw [if_pos c9] at H
  have c9b0 : (Op.bytesLess a1.toList a0.toList) = true := c9
  clear c9
  obtain rfl := Option.some.inj H
  go_enter Tryz.func41, Tryz.ntmps41
  go_wp2_with (first | ((with_reducible refine gate_callee (f := 55) rfl ?_); refine goesL_ (some 8) rfl rfl Tryz.func55 (by kernel_rfl) rfl #[.string a0] rfl gl_ ?_; (with_reducible refine (cmp_isNaN_string.calls a0 false _ A3.out).mono ?_); rintro e w' ⟨rfl, ⟨nd, rfl⟩⟩; refine ⟨_, rfl, ?_⟩) | ((with_reducible refine gate_callee (f := 55) rfl ?_); refine goesL_ (some 10) rfl rfl Tryz.func55 (by kernel_rfl) rfl #[.string a1] rfl gl_ ?_; (with_reducible refine (cmp_isNaN_string.calls a1 false _ A4.out).mono ?_); rintro e w' ⟨rfl, ⟨nd, rfl⟩⟩; refine ⟨_, rfl, ?_⟩))
  go_ret
  exact ⟨by first | rfl | (simp; done) | (simp [*]; done), by repeat (first | exact Drawn0.refl _ | apply Drawn0.step)⟩
 rw [if_neg c9] at H
 have c9b0 : (Op.bytesLess a1.toList a0.toList) = false := by simpa using c9
 clear c9
 obtain rfl := Option.some.inj H
 go_enter Tryz.func41, Tryz.ntmps41
 go_wp2_with (first | ((with_reducible refine gate_callee (f := 55) rfl ?_); refine goesL_ (some 8) rfl rfl Tryz.func55 (by kernel_rfl) rfl #[.string a0] rfl gl_ ?_; (with_reducible refine (cmp_isNaN_string.calls a0 false _ A3.out).mono ?_); rintro e w' ⟨rfl, ⟨nd, rfl⟩⟩; refine ⟨_, rfl, ?_⟩) | ((with_reducible refine gate_callee (f := 55) rfl ?_); refine goesL_ (some 10) rfl rfl Tryz.func55 (by kernel_rfl) rfl #[.string a1] rfl gl_ ?_; (with_reducible refine (cmp_isNaN_string.calls a1 false _ A4.out).mono ?_); rintro e w' ⟨rfl, ⟨nd, rfl⟩⟩; refine ⟨_, rfl, ?_⟩))
 go_ret
 exact ⟨by first | rfl | (simp; done) | (simp [*]; done), by repeat (first | exact Drawn0.refl _ | apply Drawn0.step)⟩
def cmp_Or_int.l0 : Nat → Int → List Int → Int → Int → Option (Int)
 | 0, _, _, _, _ => none
 | k + 1, x3, x6, x7, x8 => if x8 < x7 then (if 0 ≤ x8 then (if x8 < (x6.length : Int) then (if (rd x6 x8) = x3 then (cmp_Or_int.l0 k x3 x6 x7 (wrap64 (x8 + 1))) else (some (rd x6 x8))) else (none)) else (none)) else (some x3)
def cmp_Or_int.f (k : Nat) (l0 : List Int) : Option (Int) := cmp_Or_int.l0 k 0 l0 (l0.length : Int) 0
theorem cmp_Or_int.mono_l : ∀ k, (∀ y0 y1 y2 y3, LeO (cmp_Or_int.l0 k y0 y1 y2 y3) (cmp_Or_int.l0 (k + 1) y0 y1 y2 y3))
 | 0 => fun _ _ _ _ r h => by simp [cmp_Or_int.l0] at h
 | k + 1 => by
  have ih0 := cmp_Or_int.mono_l k
  intro y0 y1 y2 y3
  unfold cmp_Or_int.l0
  repeat' first
  | (with_reducible exact ih0 _ _ _ _)
  | (with_reducible exact LeO.refl _)
  | (with_reducible exact LeO.none _)
  | (with_reducible refine LeO.ite ?_ ?_)
  | (with_reducible refine LeO.bind ?_ (fun _ => ?_))
  | exact ih0 _ _ _ _
  | exact LeO.none _
  | refine LeO.ite ?_ ?_
  | refine LeO.bind ?_ (fun _ => ?_)
theorem cmp_Or_int.mono : ∀ a0 k, LeO (cmp_Or_int.f k a0) (cmp_Or_int.f (k + 1) a0) := by
 intro a0 k
 have ih0 := cmp_Or_int.mono_l k
 unfold cmp_Or_int.f
 repeat' first
   | (with_reducible exact ih0 _ _ _ _)
   | (with_reducible exact LeO.refl _)
   | (with_reducible exact LeO.none _)
   | (with_reducible refine LeO.ite ?_ ?_)
   | (with_reducible refine LeO.bind ?_ (fun _ => ?_))
   | exact ih0 _ _ _ _
   | exact LeO.none _
   | refine LeO.ite ?_ ?_
   | refine LeO.bind ?_ (fun _ => ?_)
set_option maxHeartbeats 8000000 in
set_option maxRecDepth 100000 in
theorem cmp_Or_int.calls (k : Nat) (A0 : Option Addr) (c0 : Nat) (l0 : List Int) (r : Int) (w : World) (hr0 : Kd.C (Kd.int .i64) w A0 l0.length l0) (hc0 : l0.length ≤ c0) (h : cmp_Or_int.f k l0 = some r) :
  Calls Tryz.prog 40 #[.slice A0 l0.length c0] w fun e w' => e = .returned (.int .i64 r) ∧ Drawn0 w w' := by
 have HR0 := am hr0
 have HC0 := am hc0
 clear hr0 hc0
 have H : (cmp_Or_int.l0 k 0 l0 (l0.length : Int) 0) = some r := h
 clear h
 have H' := am H
 clear H
 go_enter Tryz.func40, Tryz.ntmps40
 go_wp2
 go_loopg [8] k (fun kq v8 w' => ∃ (x8_1 : Int), v8 = .int .i64 x8_1 ∧ Aside0 (cmp_Or_int.l0 kq 0 l0 (l0.length : Int) x8_1 = some r) ∧ Aside0 (kq ≤ k) ∧ Drawn0 w w')
 case atStart => exact ⟨(0), (by first | rfl | (simp; done) | (simp [*]; done)), H', ⟨Nat.le_refl _⟩, by repeat (first | exact Drawn0.refl _ | apply Drawn0.step)⟩
 case round =>
  clear H'
  obtain ⟨x8_1, rfl, HA, HK1, ⟨m1, rfl⟩⟩ := hrel
  cases gk with
  | zero => exact absurd HA.out (by simp [cmp_Or_int.l0])
  | succ k1 =>
   have H := HA.out
   clear HA
   simp only [cmp_Or_int.l0] at H
   by_cases c2 : x8_1 < (l0.length : Int)
   rotate_left
   ·rw [if_neg c2] at H
    have c2b0 : decide (x8_1 < (l0.length : Int)) = false := decide_eq_false c2
    clear c2
    obtain rfl := Option.some.inj H
    go_wp2
    go_ret
    exact ⟨by first | rfl | (simp; done) | (simp [*]; done), by repeat (first | exact Drawn0.refl _ | apply Drawn0.step)⟩
   rw [if_pos c2] at H
   have c2b0 : decide (x8_1 < (l0.length : Int)) = true := decide_eq_true c2
   clear c2
   by_cases c3 : 0 ≤ x8_1
   rotate_left
   ·rw [if_neg c3] at H
    exact absurd H (by simp)
   rw [if_pos c3] at H
   have c3b0 : decide (0 ≤ x8_1) = true := decide_eq_true c3
   clear c3
   by_cases c4 : x8_1 < (l0.length : Int)
   rotate_left
   ·rw [if_neg c4] at H
    exact absurd H (by simp)
   rw [if_pos c4] at H
   have c4b0 : decide (x8_1 < (l0.length : Int)) = true := decide_eq_true c4
   clear c4
   by_cases c5 : (rd l0 x8_1) = 0
   ·rw [if_pos c5] at H
    have c5b0 : ((rd l0 x8_1) == 0) = true := beq_iff_eq.mpr c5
    have c5b1 : ((rd l0 x8_1) != 0) = false := bne_eq_false_iff_eq.mpr c5
    clear c5
    have H' := am H
    clear H
    have p101 : 0 ≤ (x8_1 : Int) := of_decide_eq_true (by first | (with_reducible assumption) | assumption)
    have q101 : x8_1 < (l0.length : Int) := of_decide_eq_true (by first | (with_reducible assumption) | assumption)
    obtain ⟨ad101, e101, hx101_0⟩ := Kd.at_int HR0.out x8_1 p101 q101
    cases e101
    replace p101 := eq_true p101
    replace q101 := eq_true q101
    go_wp2
    go_roundg k1
    case measure => have := HK1.out; omega
    case rel => exact ⟨(wrap64 (x8_1 + 1)), (by first | rfl | (simp; done) | (simp [*]; done)), H', ⟨by have := HK1.out; omega⟩, by repeat (first | exact Drawn0.refl _ | apply Drawn0.step)⟩
   rw [if_neg c5] at H
   have c5b0 : ((rd l0 x8_1) == 0) = false := beq_eq_false_iff_ne.mpr c5
   have c5b1 : ((rd l0 x8_1) != 0) = true := bne_iff_ne.mpr c5
   obtain rfl := Option.some.inj H
   have p101 : 0 ≤ (x8_1 : Int) := of_decide_eq_true (by first | (with_reducible assumption) | assumption)
   have q101 : x8_1 < (l0.length : Int) := of_decide_eq_true (by first | (with_reducible assumption) | assumption)
   obtain ⟨ad101, e101, hx101_0⟩ := Kd.at_int HR0.out x8_1 p101 q101
   cases e101
   replace p101 := eq_true p101
   replace q101 := eq_true q101
   go_wp2
   go_ret
   exact ⟨by first | rfl | (simp; done) | (simp [*]; done), by repeat (first | exact Drawn0.refl _ | apply Drawn0.step)⟩
end Go.Proofs.YtoekfmdcplphmaaGreat.H
namespace Go.Proofs.YtoekfmdcplphmaaGreat.H
open Go.RowKit Go.Proofs.YtoekfmdcplphmaaGreatW.PrintWords Go.Proofs.YtoekfmdcplphmaaGreatW.PrintLast Go.Proofs.YtoekfmdcplphmaaGreatW.PrintMore
/-- min, told by a word of its own, so that no walk parts it -/
theorem min2_mn (k k' : IntKind) (x y : Int) : Builtin.min2 (.int k x) (.int k' y) = pure (.int k (mn x y)) := by simp only [Builtin.min2, mn]
end Go.Proofs.YtoekfmdcplphmaaGreat.H
namespace Go.Proofs.YtoekfmdcplphmaaGreat.H
open Go.RowKit Go.Proofs.YtoekfmdcplphmaaGreatW.PrintWords Go.Proofs.YtoekfmdcplphmaaGreatW.PrintLast Go.Proofs.YtoekfmdcplphmaaGreatW.PrintMore
attribute [local go_sem] max2_int min2_int max_two min_two max_three min_three max_four min_four
def cmp_isNaN_int.f (a0 : Int) : Option (Bool) := some (a0 != a0)
set_option maxHeartbeats 8000000 in
set_option maxRecDepth 100000 in
theorem cmp_isNaN_int.calls (a0 : Int) (r : Bool) (w : World) (h : cmp_isNaN_int.f a0 = some r) :
  Calls Tryz.prog 77 #[.int .i64 a0] w fun e w' => e = .returned (.bool r) ∧ Drawn0 w w' := by
 have H : (some (a0 != a0)) = some r := h
 clear h
 obtain rfl := Option.some.inj H
 go_enter Tryz.func77, Tryz.ntmps77
 go_wp2
 go_ret
 exact ⟨by first | rfl | (simp; done) | (simp [*]; done), by repeat (first | exact Drawn0.refl _ | apply Drawn0.step)⟩
def cmp_Compare_int.f (a0 : Int) (a1 : Int) : Option (Int) := (cmp_isNaN_int.f a0).bind fun t101 => ((cmp_isNaN_int.f a1).bind fun t102 => (if t101 = true then (if t102 = true then (some 0) else (some (-1))) else (if t102 = true then (some 1) else (if a0 < a1 then (some (-1)) else (if a0 > a1 then (some 1) else (some 0))))))
set_option maxHeartbeats 8000000 in
set_option maxRecDepth 100000 in
theorem cmp_Compare_int.calls (a0 : Int) (a1 : Int) (r : Int) (w : World) (h : cmp_Compare_int.f a0 a1 = some r) :
  Calls Tryz.prog 57 #[.int .i64 a0, .int .i64 a1] w fun e w' => e = .returned (.int .i64 r) ∧ Drawn0 w w' := by
 have H : ((cmp_isNaN_int.f a0).bind fun t101 => ((cmp_isNaN_int.f a1).bind fun t102 => (if t101 = true then (if t102 = true then (some 0) else (some (-1))) else (if t102 = true then (some 1) else (if a0 < a1 then (some (-1)) else (if a0 > a1 then (some 1) else (some 0))))))) = some r := h
 clear h
 replace H := Option.bind_eq_some_iff.mp H
 obtain ⟨t101, A30, H⟩ := H
 replace H : ((cmp_isNaN_int.f a1).bind fun t102 => (if t101 = true then (if t102 = true then (some 0) else (some (-1))) else (if t102 = true then (some 1) else (if a0 < a1 then (some (-1)) else (if a0 > a1 then (some 1) else (some 0)))))) = some r := H
 have A3 := am A30
 clear A30
 replace H := Option.bind_eq_some_iff.mp H
 obtain ⟨t102, A40, H⟩ := H
 replace H : (if t101 = true then (if t102 = true then (some 0) else (some (-1))) else (if t102 = true then (some 1) else (if a0 < a1 then (some (-1)) else (if a0 > a1 then (some 1) else (some 0))))) = some r := H
 have A4 := am A40
 clear A40
 by_cases c5 : t101 = true
 ·subst c5
  have H1 : (if t102 = true then (some 0) else (some (-1))) = some r := by rw [if_pos rfl] at H; exact H
  clear H
  have H := H1
  clear H1
  by_cases c6 : t102 = true
  ·subst c6
   have H1 : (some 0) = some r := by rw [if_pos rfl] at H; exact H
   clear H
   have H := H1
   clear H1
   obtain rfl := Option.some.inj H
   go_enter Tryz.func57, Tryz.ntmps57
   go_wp2_with (first | ((with_reducible refine gate_callee (f := 77) rfl ?_); refine goesL_ (some 8) rfl rfl Tryz.func77 (by kernel_rfl) rfl #[.int .i64 a0] rfl gl_ ?_; (with_reducible refine (cmp_isNaN_int.calls a0 true _ A3.out).mono ?_); rintro e w' ⟨rfl, ⟨nd, rfl⟩⟩; refine ⟨_, rfl, ?_⟩) | ((with_reducible refine gate_callee (f := 77) rfl ?_); refine goesL_ (some 10) rfl rfl Tryz.func77 (by kernel_rfl) rfl #[.int .i64 a1] rfl gl_ ?_; (with_reducible refine (cmp_isNaN_int.calls a1 true _ A4.out).mono ?_); rintro e w' ⟨rfl, ⟨nd, rfl⟩⟩; refine ⟨_, rfl, ?_⟩))
   go_ret
   exact ⟨by first | rfl | (simp; done) | (simp [*]; done), by repeat (first | exact Drawn0.refl _ | apply Drawn0.step)⟩
  replace c6 := Bool.eq_false_iff.mpr c6
  subst c6
  have H1 : (some (-1)) = some r := by rw [if_neg (show ¬ (false = true) by decide)] at H; exact H
  clear H
  have H := H1
  clear H1
  obtain rfl := Option.some.inj H
  go_enter Tryz.func57, Tryz.ntmps57
  go_wp2_with (first | ((with_reducible refine gate_callee (f := 77) rfl ?_); refine goesL_ (some 8) rfl rfl Tryz.func77 (by kernel_rfl) rfl #[.int .i64 a0] rfl gl_ ?_; (with_reducible refine (cmp_isNaN_int.calls a0 true _ A3.out).mono ?_); rintro e w' ⟨rfl, ⟨nd, rfl⟩⟩; refine ⟨_, rfl, ?_⟩) | ((with_reducible refine gate_callee (f := 77) rfl ?_); refine goesL_ (some 10) rfl rfl Tryz.func77 (by kernel_rfl) rfl #[.int .i64 a1] rfl gl_ ?_; (with_reducible refine (cmp_isNaN_int.calls a1 false _ A4.out).mono ?_); rintro e w' ⟨rfl, ⟨nd, rfl⟩⟩; refine ⟨_, rfl, ?_⟩))
  go_ret
  exact ⟨by first | rfl | (simp; done) | (simp [*]; done), by repeat (first | exact Drawn0.refl _ | apply Drawn0.step)⟩
 replace c5 := Bool.eq_false_iff.mpr c5
 subst c5
 have H1 : (if t102 = true then (some 1) else (if a0 < a1 then (some (-1)) else (if a0 > a1 then (some 1) else (some 0)))) = some r := by rw [if_neg (show ¬ (false = true) by decide)] at H; exact H
 clear H
 have H := H1
 clear H1
 by_cases c7 : t102 = true
 ·subst c7
  have H1 : (some 1) = some r := by rw [if_pos rfl] at H; exact H
  clear H
  have H := H1
  clear H1
  obtain rfl := Option.some.inj H
  go_enter Tryz.func57, Tryz.ntmps57
  go_wp2_with (first | ((with_reducible refine gate_callee (f := 77) rfl ?_); refine goesL_ (some 8) rfl rfl Tryz.func77 (by kernel_rfl) rfl #[.int .i64 a0] rfl gl_ ?_; (with_reducible refine (cmp_isNaN_int.calls a0 false _ A3.out).mono ?_); rintro e w' ⟨rfl, ⟨nd, rfl⟩⟩; refine ⟨_, rfl, ?_⟩) | ((with_reducible refine gate_callee (f := 77) rfl ?_); refine goesL_ (some 10) rfl rfl Tryz.func77 (by kernel_rfl) rfl #[.int .i64 a1] rfl gl_ ?_; (with_reducible refine (cmp_isNaN_int.calls a1 true _ A4.out).mono ?_); rintro e w' ⟨rfl, ⟨nd, rfl⟩⟩; refine ⟨_, rfl, ?_⟩))
  go_ret
  exact ⟨by first | rfl | (simp; done) | (simp [*]; done), by repeat (first | exact Drawn0.refl _ | apply Drawn0.step)⟩
 replace c7 := Bool.eq_false_iff.mpr c7
 subst c7
 have H1 : (if a0 < a1 then (some (-1)) else (if a0 > a1 then (some 1) else (some 0))) = some r := by rw [if_neg (show ¬ (false = true) by decide)] at H; exact H
 clear H
 have H := H1
 clear H1
 by_cases c8 : a0 < a1
 ·rw [if_pos c8] at H
  have c8b0 : decide (a0 < a1) = true := decide_eq_true c8
  clear c8
  obtain rfl := Option.some.inj H
  go_enter Tryz.func57, Tryz.ntmps57
  go_wp2_with (first | ((with_reducible refine gate_callee (f := 77) rfl ?_); refine goesL_ (some 8) rfl rfl Tryz.func77 (by kernel_rfl) rfl #[.int .i64 a0] rfl gl_ ?_; (with_reducible refine (cmp_isNaN_int.calls a0 false _ A3.out).mono ?_); rintro e w' ⟨rfl, ⟨nd, rfl⟩⟩; refine ⟨_, rfl, ?_⟩) | ((with_reducible refine gate_callee (f := 77) rfl ?_); refine goesL_ (some 10) rfl rfl Tryz.func77 (by kernel_rfl) rfl #[.int .i64 a1] rfl gl_ ?_; (with_reducible refine (cmp_isNaN_int.calls a1 false _ A4.out).mono ?_); rintro e w' ⟨rfl, ⟨nd, rfl⟩⟩; refine ⟨_, rfl, ?_⟩))
  go_ret
  exact ⟨by first | rfl | (simp; done) | (simp [*]; done), by repeat (first | exact Drawn0.refl _ | apply Drawn0.step)⟩
 rw [if_neg c8] at H
 have c8b0 : decide (a0 < a1) = false := decide_eq_false c8
 clear c8
 by_cases c9 : a0 > a1
 ·rw [if_pos c9] at H
  have c9b0 : decide (a1 < a0) = true := decide_eq_true c9
  clear c9
  obtain rfl := Option.some.inj H
  go_enter Tryz.func57, Tryz.ntmps57
  go_wp2_with (first | ((with_reducible refine gate_callee (f := 77) rfl ?_); refine goesL_ (some 8) rfl rfl Tryz.func77 (by kernel_rfl) rfl #[.int .i64 a0] rfl gl_ ?_; (with_reducible refine (cmp_isNaN_int.calls a0 false _ A3.out).mono ?_); rintro e w' ⟨rfl, ⟨nd, rfl⟩⟩; refine ⟨_, rfl, ?_⟩) | ((with_reducible refine gate_callee (f := 77) rfl ?_); refine goesL_ (some 10) rfl rfl Tryz.func77 (by kernel_rfl) rfl #[.int .i64 a1] rfl gl_ ?_; (with_reducible refine (cmp_isNaN_int.calls a1 false _ A4.out).mono ?_); rintro e w' ⟨rfl, ⟨nd, rfl⟩⟩; refine ⟨_, rfl, ?_⟩))
  go_ret
  exact ⟨by first | rfl | (simp; done) | (simp [*]; done), by repeat (first | exact Drawn0.refl _ | apply Drawn0.step)⟩
 rw [if_neg c9] at H
 have c9b0 : decide (a1 < a0) = false := decide_eq_false c9
 clear c9
 obtain rfl := Option.some.inj H
 go_enter Tryz.func57, Tryz.ntmps57
 go_wp2_with (first | ((with_reducible refine gate_callee (f := 77) rfl ?_); refine goesL_ (some 8) rfl rfl Tryz.func77 (by kernel_rfl) rfl #[.int .i64 a0] rfl gl_ ?_; (with_reducible refine (cmp_isNaN_int.calls a0 false _ A3.out).mono ?_); rintro e w' ⟨rfl, ⟨nd, rfl⟩⟩; refine ⟨_, rfl, ?_⟩) | ((with_reducible refine gate_callee (f := 77) rfl ?_); refine goesL_ (some 10) rfl rfl Tryz.func77 (by kernel_rfl) rfl #[.int .i64 a1] rfl gl_ ?_; (with_reducible refine (cmp_isNaN_int.calls a1 false _ A4.out).mono ?_); rintro e w' ⟨rfl, ⟨nd, rfl⟩⟩; refine ⟨_, rfl, ?_⟩))
 go_ret
 exact ⟨by first | rfl | (simp; done) | (simp [*]; done), by repeat (first | exact Drawn0.refl _ | apply Drawn0.step)⟩
def cmp_isNaN_int64.f (a0 : Int) : Option (Bool) := some (a0 != a0)
set_option maxHeartbeats 8000000 in
set_option maxRecDepth 100000 in
theorem cmp_isNaN_int64.calls (a0 : Int) (r : Bool) (w : World) (h : cmp_isNaN_int64.f a0 = some r) :
  Calls Tryz.prog 85 #[.int .i64 a0] w fun e w' => e = .returned (.bool r) ∧ Drawn0 w w' := by
 have H : (some (a0 != a0)) = some r := h
 clear h
 obtain rfl := Option.some.inj H
 go_enter Tryz.func85, Tryz.ntmps85
 go_wp2
 go_ret
 exact ⟨by first | rfl | (simp; done) | (simp [*]; done), by repeat (first | exact Drawn0.refl _ | apply Drawn0.step)⟩
def cmp_Compare_int64.f (a0 : Int) (a1 : Int) : Option (Int) := (cmp_isNaN_int64.f a0).bind fun t101 => ((cmp_isNaN_int64.f a1).bind fun t102 => (if t101 = true then (if t102 = true then (some 0) else (some (-1))) else (if t102 = true then (some 1) else (if a0 < a1 then (some (-1)) else (if a0 > a1 then (some 1) else (some 0))))))
set_option maxHeartbeats 8000000 in
set_option maxRecDepth 100000 in
theorem cmp_Compare_int64.calls (a0 : Int) (a1 : Int) (r : Int) (w : World) (h : cmp_Compare_int64.f a0 a1 = some r) :
  Calls Tryz.prog 76 #[.int .i64 a0, .int .i64 a1] w fun e w' => e = .returned (.int .i64 r) ∧ Drawn0 w w' := by
 have H : ((cmp_isNaN_int64.f a0).bind fun t101 => ((cmp_isNaN_int64.f a1).bind fun t102 => (if t101 = true then (if t102 = true then (some 0) else (some (-1))) else (if t102 = true then (some 1) else (if a0 < a1 then (some (-1)) else (if a0 > a1 then (some 1) else (some 0))))))) = some r := h
 clear h
 replace H := Option.bind_eq_some_iff.mp H
 obtain ⟨t101, A30, H⟩ := H
 replace H : ((cmp_isNaN_int64.f a1).bind fun t102 => (if t101 = true then (if t102 = true then (some 0) else (some (-1))) else (if t102 = true then (some 1) else (if a0 < a1 then (some (-1)) else (if a0 > a1 then (some 1) else (some 0)))))) = some r := H
 have A3 := am A30
 clear A30
 replace H := Option.bind_eq_some_iff.mp H
 obtain ⟨t102, A40, H⟩ := H
 replace H : (if t101 = true then (if t102 = true then (some 0) else (some (-1))) else (if t102 = true then (some 1) else (if a0 < a1 then (some (-1)) else (if a0 > a1 then (some 1) else (some 0))))) = some r := H
 have A4 := am A40
 clear A40
 by_cases c5 : t101 = true
 ·subst c5
  have H1 : (if t102 = true then (some 0) else (some (-1))) = some r := by rw [if_pos rfl] at H; exact H
  clear H
  have H := H1
  clear H1
  by_cases c6 : t102 = true
  ·subst c6
   have H1 : (some 0) = some r := by rw [if_pos rfl] at H; exact H
   clear H
   have H := H1
   clear H1
   obtain rfl := Option.some.inj H
   go_enter Tryz.func76, Tryz.ntmps76
   go_wp2_with (first | ((with_reducible refine gate_callee (f := 85) rfl ?_); refine goesL_ (some 8) rfl rfl Tryz.func85 (by kernel_rfl) rfl #[.int .i64 a0] rfl gl_ ?_; (with_reducible refine (cmp_isNaN_int64.calls a0 true _ A3.out).mono ?_); rintro e w' ⟨rfl, ⟨nd, rfl⟩⟩; refine ⟨_, rfl, ?_⟩) | ((with_reducible refine gate_callee (f := 85) rfl ?_); refine goesL_ (some 10) rfl rfl Tryz.func85 (by kernel_rfl) rfl #[.int .i64 a1] rfl gl_ ?_; (with_reducible refine (cmp_isNaN_int64.calls a1 true _ A4.out).mono ?_); rintro e w' ⟨rfl, ⟨nd, rfl⟩⟩; refine ⟨_, rfl, ?_⟩))
   go_ret
   exact ⟨by first | rfl | (simp; done) | (simp [*]; done), by repeat (first | exact Drawn0.refl _ | apply Drawn0.step)⟩
  replace c6 := Bool.eq_false_iff.mpr c6
  subst c6
  have H1 : (some (-1)) = some r := by rw [if_neg (show ¬ (false = true) by decide)] at H; exact H
  clear H
  have H := H1
  clear H1
  obtain rfl := Option.some.inj H
  go_enter Tryz.func76, Tryz.ntmps76
  go_wp2_with (first | ((with_reducible refine gate_callee (f := 85) rfl ?_); refine goesL_ (some 8) rfl rfl Tryz.func85 (by kernel_rfl) rfl #[.int .i64 a0] rfl gl_ ?_; (with_reducible refine (cmp_isNaN_int64.calls a0 true _ A3.out).mono ?_); rintro e w' ⟨rfl, ⟨nd, rfl⟩⟩; refine ⟨_, rfl, ?_⟩) | ((with_reducible refine gate_callee (f := 85) rfl ?_); refine goesL_ (some 10) rfl rfl Tryz.func85 (by kernel_rfl) rfl #[.int .i64 a1] rfl gl_ ?_; (with_reducible refine (cmp_isNaN_int64.calls a1 false _ A4.out).mono ?_); rintro e w' ⟨rfl, ⟨nd, rfl⟩⟩; refine ⟨_, rfl, ?_⟩))
  go_ret
  exact ⟨by first | rfl | (simp; done) | (simp [*]; done), by repeat (first | exact Drawn0.refl _ | apply Drawn0.step)⟩
 replace c5 := Bool.eq_false_iff.mpr c5
 subst c5
 have H1 : (if t102 = true then (some 1) else (if a0 < a1 then (some (-1)) else (if a0 > a1 then (some 1) else (some 0)))) = some r := by rw [if_neg (show ¬ (false = true) by decide)] at H; exact H
 clear H
 have H := H1
 clear H1
 by_cases c7 : t102 = true
 ·subst c7
  have H1 : (some 1) = some r := by rw [if_pos rfl] at H; exact H
  clear H
  have H := H1
  clear H1
  obtain rfl := Option.some.inj H
  go_enter Tryz.func76, Tryz.ntmps76
  go_wp2_with (first | ((with_reducible refine gate_callee (f := 85) rfl ?_); refine goesL_ (some 8) rfl rfl Tryz.func85 (by kernel_rfl) rfl #[.int .i64 a0] rfl gl_ ?_; (with_reducible refine (cmp_isNaN_int64.calls a0 false _ A3.out).mono ?_); rintro e w' ⟨rfl, ⟨nd, rfl⟩⟩; refine ⟨_, rfl, ?_⟩) | ((with_reducible refine gate_callee (f := 85) rfl ?_); refine goesL_ (some 10) rfl rfl Tryz.func85 (by kernel_rfl) rfl #[.int .i64 a1] rfl gl_ ?_; (with_reducible refine (cmp_isNaN_int64.calls a1 true _ A4.out).mono ?_); rintro e w' ⟨rfl, ⟨nd, rfl⟩⟩; refine ⟨_, rfl, ?_⟩))
  go_ret
  exact ⟨by first | rfl | (simp; done) | (simp [*]; done), by repeat (first | exact Drawn0.refl _ | apply Drawn0.step)⟩
 replace c7 := Bool.eq_false_iff.mpr c7
 subst c7
 have H1 : (if a0 < a1 then (some (-1)) else (if a0 > a1 then (some 1) else (some 0))) = some r := by rw [if_neg (show ¬ (false = true) by decide)] at H; exact H
 clear H
 have H := H1
 clear H1
 by_cases c8 : a0 < a1
 ·rw [if_pos c8] at H
  have c8b0 : decide (a0 < a1) = true := decide_eq_true c8
  clear c8
  obtain rfl := Option.some.inj H
  go_enter Tryz.func76, Tryz.ntmps76
  go_wp2_with (first | ((with_reducible refine gate_callee (f := 85) rfl ?_); refine goesL_ (some 8) rfl rfl Tryz.func85 (by kernel_rfl) rfl #[.int .i64 a0] rfl gl_ ?_; (with_reducible refine (cmp_isNaN_int64.calls a0 false _ A3.out).mono ?_); rintro e w' ⟨rfl, ⟨nd, rfl⟩⟩; refine ⟨_, rfl, ?_⟩) | ((with_reducible refine gate_callee (f := 85) rfl ?_); refine goesL_ (some 10) rfl rfl Tryz.func85 (by kernel_rfl) rfl #[.int .i64 a1] rfl gl_ ?_; (with_reducible refine (cmp_isNaN_int64.calls a1 false _ A4.out).mono ?_); rintro e w' ⟨rfl, ⟨nd, rfl⟩⟩; refine ⟨_, rfl, ?_⟩))
  go_ret
  exact ⟨by first | rfl | (simp; done) | (simp [*]; done), by repeat (first | exact Drawn0.refl _ | apply Drawn0.step)⟩
 rw [if_neg c8] at H
 have c8b0 : decide (a0 < a1) = false := decide_eq_false c8
 clear c8
 by_cases c9 : a0 > a1
 ·rw [if_pos c9] at H
  have c9b0 : decide (a1 < a0) = true := decide_eq_true c9
  clear c9
  obtain rfl := Option.some.inj H
  go_enter Tryz.func76, Tryz.ntmps76
  go_wp2_with (first | ((with_reducible refine gate_callee (f := 85) rfl ?_); refine goesL_ (some 8) rfl rfl Tryz.func85 (by kernel_rfl) rfl #[.int .i64 a0] rfl gl_ ?_; (with_reducible refine (cmp_isNaN_int64.calls a0 false _ A3.out).mono ?_); rintro e w' ⟨rfl, ⟨nd, rfl⟩⟩; refine ⟨_, rfl, ?_⟩) | ((with_reducible refine gate_callee (f := 85) rfl ?_); refine goesL_ (some 10) rfl rfl Tryz.func85 (by kernel_rfl) rfl #[.int .i64 a1] rfl gl_ ?_; (with_reducible refine (cmp_isNaN_int64.calls a1 false _ A4.out).mono ?_); rintro e w' ⟨rfl, ⟨nd, rfl⟩⟩; refine ⟨_, rfl, ?_⟩))
  go_ret
  exact ⟨by first | rfl | (simp; done) | (simp [*]; done), by repeat (first | exact Drawn0.refl _ | apply Drawn0.step)⟩
 rw [if_neg c9] at H
 have c9b0 : decide (a1 < a0) = false := decide_eq_false c9
 clear c9
 obtain rfl := Option.some.inj H
 go_enter Tryz.func76, Tryz.ntmps76
 go_wp2_with (first | ((with_reducible refine gate_callee (f := 85) rfl ?_); refine goesL_ (some 8) rfl rfl Tryz.func85 (by kernel_rfl) rfl #[.int .i64 a0] rfl gl_ ?_; (with_reducible refine (cmp_isNaN_int64.calls a0 false _ A3.out).mono ?_); rintro e w' ⟨rfl, ⟨nd, rfl⟩⟩; refine ⟨_, rfl, ?_⟩) | ((with_reducible refine gate_callee (f := 85) rfl ?_); refine goesL_ (some 10) rfl rfl Tryz.func85 (by kernel_rfl) rfl #[.int .i64 a1] rfl gl_ ?_; (with_reducible refine (cmp_isNaN_int64.calls a1 false _ A4.out).mono ?_); rintro e w' ⟨rfl, ⟨nd, rfl⟩⟩; refine ⟨_, rfl, ?_⟩))
 go_ret
 exact ⟨by first | rfl | (simp; done) | (simp [*]; done), by repeat (first | exact Drawn0.refl _ | apply Drawn0.step)⟩
def value_Compare.j0 : Nat → Bool → Bool → ByteArray → Int → Bool → ByteArray → Int → Option (Int)
 | 0, _, _, _, _, _, _, _ => none
 | k + 1, x5, x102000, x102001, x102002, x103000, x103001, x103002 => if x5 = true then ((cmp_Compare_string.f x102001 x103001).bind fun t103 => (some t103)) else (if x102000 = true then (some 1) else (if x103000 = true then (some (-1)) else ((cmp_Compare_int64.f x102002 x103002).bind fun t104 => (some t104))))
def value_Compare.f (k : Nat) (a0_0 : Bool) (a0_1 : ByteArray) (a0_2 : Int) (a1_0 : Bool) (a1_1 : ByteArray) (a1_2 : Int) : Option (Int) := if a0_0 = true then (value_Compare.j0 k a1_0 a0_0 a0_1 a0_2 a1_0 a1_1 a1_2) else (value_Compare.j0 k false a0_0 a0_1 a0_2 a1_0 a1_1 a1_2)
theorem value_Compare.mono_l : ∀ k, (∀ y0 y1 y2 y3 y4 y5 y6, LeO (value_Compare.j0 k y0 y1 y2 y3 y4 y5 y6) (value_Compare.j0 (k + 1) y0 y1 y2 y3 y4 y5 y6))
 | 0 => fun _ _ _ _ _ _ _ r h => by simp [value_Compare.j0] at h
 | k + 1 => by
  have ih0 := value_Compare.mono_l k
  intro y0 y1 y2 y3 y4 y5 y6
  unfold value_Compare.j0
  repeat' first
  | (with_reducible exact ih0 _ _ _ _ _ _ _)
  | (with_reducible exact LeO.refl _)
  | (with_reducible exact LeO.none _)
  | (with_reducible refine LeO.ite ?_ ?_)
  | (with_reducible refine LeO.bind ?_ (fun _ => ?_))
  | exact ih0 _ _ _ _ _ _ _
  | exact LeO.none _
  | refine LeO.ite ?_ ?_
  | refine LeO.bind ?_ (fun _ => ?_)
theorem value_Compare.mono : ∀ a0 a1 a2 a3 a4 a5 k, LeO (value_Compare.f k a0 a1 a2 a3 a4 a5) (value_Compare.f (k + 1) a0 a1 a2 a3 a4 a5) := by
 intro a0 a1 a2 a3 a4 a5 k
 have ih0 := value_Compare.mono_l k
 unfold value_Compare.f
 repeat' first
   | (with_reducible exact ih0 _ _ _ _ _ _ _)
   | (with_reducible exact LeO.refl _)
   | (with_reducible exact LeO.none _)
   | (with_reducible refine LeO.ite ?_ ?_)
   | (with_reducible refine LeO.bind ?_ (fun _ => ?_))
   | exact ih0 _ _ _ _ _ _ _
   | exact LeO.none _
   | refine LeO.ite ?_ ?_
   | refine LeO.bind ?_ (fun _ => ?_)
set_option maxHeartbeats 8000000 in
set_option maxRecDepth 100000 in
theorem value_Compare.calls (k : Nat) (a0_0 : Bool) (a0_1 : ByteArray) (a0_2 : Int) (a1_0 : Bool) (a1_1 : ByteArray) (a1_2 : Int) (r : Int) (w : World) (h : value_Compare.f k a0_0 a0_1 a0_2 a1_0 a1_1 a1_2 = some r) :
  Calls Tryz.prog 56 #[.agg #[.bool a0_0, .string a0_1, .int .i64 a0_2], .agg #[.bool a1_0, .string a1_1, .int .i64 a1_2]] w fun e w' => e = .returned (.int .i64 r) ∧ Below w.heap.size w w' := by
 have hu36 := Tryz.underlying36
 have HB := am (Below.refl w.heap.size w)
 have H : (if a0_0 = true then (value_Compare.j0 k a1_0 a0_0 a0_1 a0_2 a1_0 a1_1 a1_2) else (value_Compare.j0 k false a0_0 a0_1 a0_2 a1_0 a1_1 a1_2)) = some r := h
 clear h
 have HC3 := am H
 clear H
 go_enter Tryz.func56, Tryz.ntmps56
 go_upto_region 1 with (first | ((with_reducible refine gate_dst (N := 2) rfl ?_); refine box_event ?hg (N := 2) ?hd (cs := #[.bool a0_0, .string a0_1, .int .i64 a0_2]) (t := 36) ?hr ?_; (case hd => rfl); (case hg => rfl); (case hr => first | (go_simp; done) | (go_simp; rfl)); intro gb101 hg w4 hbox hb; have BK101 := am (hbox); have GW101 := am (gw_ hg HB.out); have GE101 := GW101; replace HB := am (bs_ HB.out hb); clear hb hbox hg) | ((with_reducible refine gate_dst (N := 3) rfl ?_); refine box_event ?hg (N := 3) ?hd (cs := #[.bool a1_0, .string a1_1, .int .i64 a1_2]) (t := 36) ?hr ?_; (case hd => rfl); (case hg => rfl); (case hr => first | (go_simp; done) | (go_simp; rfl)); intro gb102 hg w5 hbox hb; have BK102 := am (hbox); have GW102 := am (gw_ hg HB.out); have GE102 := GW102; replace HB := am (bs_ HB.out hb); have NB101_102 := am (nb_ hg BK101.out); have NB102_101 := am NB101_102.out.symm; replace BK101 := am (bb_ BK101.out hb); clear hb hbox hg))
 (try simp only [Act.put, List.setIfInBounds_toArray, List.set_cons_zero, List.set_cons_succ])
 go_cut [5] (fun v5 wc => ∃ (kq : Nat) (x5_2 : Bool), v5 = .bool x5_2 ∧ Aside0 (value_Compare.j0 kq x5_2 a0_0 a0_1 a0_2 a1_0 a1_1 a1_2 = some r) ∧ Aside0 (kq ≤ k) ∧ Aside0 (wc.heap[gb101]? = some (.cells #[.bool a0_0, .string a0_1, .int .i64 a0_2] 36 (0, 0))) ∧ Aside0 (wc.heap[gb102]? = some (.cells #[.bool a1_0, .string a1_1, .int .i64 a1_2] 36 (0, 0))) ∧ Aside0 (Below w.heap.size w wc))
 case first =>
  have H := HC3.out
  clear HC3
  by_cases c6 : a0_0 = true
  ·subst c6
   have H1 : (value_Compare.j0 k a1_0 true a0_1 a0_2 a1_0 a1_1 a1_2) = some r := by rw [if_pos rfl] at H; exact H
   clear H
   have H := H1
   clear H1
   have H' := am H
   clear H
   have hnb7 := NB101_102.out
   have hnc7 := NB102_101.out
   obtain ⟨hcz8_0, hcz8_1, hcz8_2, hfz8_0, hfz8_1, hfz8_2⟩ := bc3 BK101.out
   obtain ⟨hcz9_0, hcz9_1, hcz9_2, hfz9_0, hfz9_1, hfz9_2⟩ := bc3 BK102.out
   go_wp2
   go_meet
   case rel => exact ⟨_, (a1_0), rs_, H', ⟨by first | omega | exact Nat.le_refl _⟩, ⟨pB BK101.out⟩, ⟨pB BK102.out⟩, ⟨pL HB.out⟩⟩
  replace c6 := Bool.eq_false_iff.mpr c6
  subst c6
  have H1 : (value_Compare.j0 k false false a0_1 a0_2 a1_0 a1_1 a1_2) = some r := by rw [if_neg (show ¬ (false = true) by decide)] at H; exact H
  clear H
  have H := H1
  clear H1
  have H' := am H
  clear H
  have hnb10 := NB101_102.out
  have hnc10 := NB102_101.out
  obtain ⟨hcz11_0, hcz11_1, hcz11_2, hfz11_0, hfz11_1, hfz11_2⟩ := bc3 BK101.out
  go_wp2
  go_meet
  case rel => exact ⟨_, (false), rs_, H', ⟨by first | omega | exact Nat.le_refl _⟩, ⟨pB BK101.out⟩, ⟨pB BK102.out⟩, ⟨pL HB.out⟩⟩
 case rest =>
  clear HC3
  try clear c1
  try clear p2
  try clear c5
  try clear c6
  try clear c7
  try clear c10
  try clear hcz11_0
  try clear hcz11_1
  try clear hcz11_2
  try clear hcz8_0
  try clear hcz8_1
  try clear hcz8_2
  try clear hcz9_0
  try clear hcz9_1
  try clear hcz9_2
  try clear hfz11_0
  try clear hfz11_1
  try clear hfz11_2
  try clear hfz8_0
  try clear hfz8_1
  try clear hfz8_2
  try clear hfz9_0
  try clear hfz9_1
  try clear hfz9_2
  obtain ⟨kq, x5_2, rfl, HA, HJ2, BK101, BK102, HB⟩ := hcut
  cases kq with
  | zero => exact absurd HA.out (by simp [value_Compare.j0])
  | succ kj2 =>
   have H := HA.out
   clear HA
   simp only [value_Compare.j0] at H
   by_cases c12 : x5_2 = true
   ·subst c12
    have H1 : ((cmp_Compare_string.f a0_1 a1_1).bind fun t103 => (some t103)) = some r := by rw [if_pos rfl] at H; exact H
    clear H
    have H := H1
    clear H1
    replace H := Option.bind_eq_some_iff.mp H
    obtain ⟨t103, A130, H⟩ := H
    replace H : (some t103) = some r := H
    have A13 := am A130
    clear A130
    obtain rfl := Option.some.inj H
    have hnb14 := NB101_102.out
    have hnc14 := NB102_101.out
    obtain ⟨hcz15_0, hcz15_1, hcz15_2, hfz15_0, hfz15_1, hfz15_2⟩ := bc3 BK101.out
    obtain ⟨hcz16_0, hcz16_1, hcz16_2, hfz16_0, hfz16_1, hfz16_2⟩ := bc3 BK102.out
    go_wp2_with (first | ((with_reducible refine gate_callee (f := 41) rfl ?_); refine goesL_ (some 16) rfl rfl Tryz.func41 (by kernel_rfl) rfl #[.string a0_1, .string a1_1] rfl gl_ ?_; (with_reducible refine (cmp_Compare_string.calls a0_1 a1_1 t103 _ A13.out).mono ?_); rintro e w' ⟨rfl, ⟨nd, rfl⟩⟩; refine ⟨_, rfl, ?_⟩))
    go_ret
    exact ⟨er_, pL HB.out⟩
   replace c12 := Bool.eq_false_iff.mpr c12
   subst c12
   have H1 : (if a0_0 = true then (some 1) else (if a1_0 = true then (some (-1)) else ((cmp_Compare_int64.f a0_2 a1_2).bind fun t104 => (some t104)))) = some r := by rw [if_neg (show ¬ (false = true) by decide)] at H; exact H
   clear H
   have H := H1
   clear H1
   by_cases c17 : a0_0 = true
   ·subst c17
    have H1 : (some 1) = some r := by rw [if_pos rfl] at H; exact H
    clear H
    have H := H1
    clear H1
    obtain rfl := Option.some.inj H
    have hnb18 := NB101_102.out
    have hnc18 := NB102_101.out
    obtain ⟨hcz19_0, hcz19_1, hcz19_2, hfz19_0, hfz19_1, hfz19_2⟩ := bc3 BK101.out
    go_wp2
    go_ret
    exact ⟨er_, pL HB.out⟩
   replace c17 := Bool.eq_false_iff.mpr c17
   subst c17
   have H1 : (if a1_0 = true then (some (-1)) else ((cmp_Compare_int64.f a0_2 a1_2).bind fun t104 => (some t104))) = some r := by rw [if_neg (show ¬ (false = true) by decide)] at H; exact H
   clear H
   have H := H1
   clear H1
   by_cases c20 : a1_0 = true
   ·subst c20
    have H1 : (some (-1)) = some r := by rw [if_pos rfl] at H; exact H
    clear H
    have H := H1
    clear H1
    obtain rfl := Option.some.inj H
    have hnb21 := NB101_102.out
    have hnc21 := NB102_101.out
    obtain ⟨hcz22_0, hcz22_1, hcz22_2, hfz22_0, hfz22_1, hfz22_2⟩ := bc3 BK101.out
    obtain ⟨hcz23_0, hcz23_1, hcz23_2, hfz23_0, hfz23_1, hfz23_2⟩ := bc3 BK102.out
    go_wp2
    go_ret
    exact ⟨er_, pL HB.out⟩
   replace c20 := Bool.eq_false_iff.mpr c20
   subst c20
   have H1 : ((cmp_Compare_int64.f a0_2 a1_2).bind fun t104 => (some t104)) = some r := by rw [if_neg (show ¬ (false = true) by decide)] at H; exact H
   clear H
   have H := H1
   clear H1
   replace H := Option.bind_eq_some_iff.mp H
   obtain ⟨t104, A240, H⟩ := H
   replace H : (some t104) = some r := H
   have A24 := am A240
   clear A240
   obtain rfl := Option.some.inj H
   have hnb25 := NB101_102.out
   have hnc25 := NB102_101.out
   obtain ⟨hcz26_0, hcz26_1, hcz26_2, hfz26_0, hfz26_1, hfz26_2⟩ := bc3 BK101.out
   obtain ⟨hcz27_0, hcz27_1, hcz27_2, hfz27_0, hfz27_1, hfz27_2⟩ := bc3 BK102.out
   go_wp2_with (first | ((with_reducible refine gate_callee (f := 76) rfl ?_); refine goesL_ (some 27) rfl rfl Tryz.func76 (by kernel_rfl) rfl #[.int .i64 a0_2, .int .i64 a1_2] rfl gl_ ?_; (with_reducible refine (cmp_Compare_int64.calls a0_2 a1_2 t104 _ A24.out).mono ?_); rintro e w' ⟨rfl, ⟨nd, rfl⟩⟩; refine ⟨_, rfl, ?_⟩))
   go_ret
   exact ⟨er_, pL HB.out⟩
end Go.Proofs.YtoekfmdcplphmaaGreat.H
namespace Go.Proofs.YtoekfmdcplphmaaGreat.H
open Go.RowKit Go.Proofs.YtoekfmdcplphmaaGreatW.PrintWords Go.Proofs.YtoekfmdcplphmaaGreatW.PrintLast Go.Proofs.YtoekfmdcplphmaaGreatW.PrintMore
attribute [local go_sem] max2_int min2_mn max_two min_two max_three min_three max_four min_four
def tuple_Compare.l0 : Nat → List (Val) → List (Val) → Int → Int → Option (Int)
 | 0, _, _, _, _ => none
 | k + 1, x0, x1, x11, x12 => if x12 < x11 then (if 0 ≤ x12 then (if x12 < (x0.length : Int) then (if x12 < (x1.length : Int) then ((value_Compare.f k ((rd_T36 x0 x12).isSym) ((rd_T36 x0 x12).sym) ((rd_T36 x0 x12).n) ((rd_T36 x1 x12).isSym) ((rd_T36 x1 x12).sym) ((rd_T36 x1 x12).n)).bind fun t103 => (if t103 = 0 then (tuple_Compare.l0 k x0 x1 x11 (wrap64 (x12 + 1))) else (some t103))) else (none)) else (none)) else (none)) else ((cmp_Compare_int.f (x0.length : Int) (x1.length : Int)).bind fun t104 => (some t104))
def tuple_Compare.f (k : Nat) (l0 : List (Val)) (l1 : List (Val)) : Option (Int) := tuple_Compare.l0 k l0 l1 (mn (l0.length : Int) (l1.length : Int)) 0
theorem tuple_Compare.mono_l : ∀ k, (∀ y0 y1 y2 y3, LeO (tuple_Compare.l0 k y0 y1 y2 y3) (tuple_Compare.l0 (k + 1) y0 y1 y2 y3))
 | 0 => fun _ _ _ _ r h => by simp [tuple_Compare.l0] at h
 | k + 1 => by
  have ih0 := tuple_Compare.mono_l k
  intro y0 y1 y2 y3
  unfold tuple_Compare.l0
  repeat' first
  | (with_reducible exact ih0 _ _ _ _)
  | (with_reducible exact value_Compare.mono _ _ _ _ _ _ _)
  | (with_reducible exact LeO.refl _)
  | (with_reducible exact LeO.none _)
  | (with_reducible refine LeO.ite ?_ ?_)
  | (with_reducible refine LeO.bind ?_ (fun _ => ?_))
  | exact ih0 _ _ _ _
  | exact value_Compare.mono _ _ _ _ _ _ _
  | exact LeO.none _
  | refine LeO.ite ?_ ?_
  | refine LeO.bind ?_ (fun _ => ?_)
theorem tuple_Compare.mono : ∀ a0 a1 k, LeO (tuple_Compare.f k a0 a1) (tuple_Compare.f (k + 1) a0 a1) := by
 intro a0 a1 k
 have ih0 := tuple_Compare.mono_l k
 unfold tuple_Compare.f
 repeat' first
   | (with_reducible exact ih0 _ _ _ _)
   | (with_reducible exact value_Compare.mono _ _ _ _ _ _ _)
   | (with_reducible exact LeO.refl _)
   | (with_reducible exact LeO.none _)
   | (with_reducible refine LeO.ite ?_ ?_)
   | (with_reducible refine LeO.bind ?_ (fun _ => ?_))
   | exact ih0 _ _ _ _
   | exact value_Compare.mono _ _ _ _ _ _ _
   | exact LeO.none _
   | refine LeO.ite ?_ ?_
   | refine LeO.bind ?_ (fun _ => ?_)
def tuple_Compare.T4 : Bool × List (List Nat × List Nat) := (true, [([], []), ([], []), ([0, 1], [0, 1]), ([2], [2]), ([], []), ([], []), ([4, 5], [4, 5]), ([6], [6]), ([3, 7], [3, 7]), ([8, 8, 0, 1, 2, 3, 4, 5, 6, 7, 8], [8])])
def tuple_Compare.B4 : List Nat := [0, 0, 3, 7, 0, 0, 48, 112, 255, 511]
theorem tuple_Compare.tab4 : rtab .any (opsOf Tryz.f42 4) = tuple_Compare.T4 := by kernel_rfl
theorem tuple_Compare.bits4 : waitsOk tuple_Compare.T4.2 tuple_Compare.B4 = true := by kernel_rfl
set_option maxHeartbeats 8000000 in
set_option maxRecDepth 100000 in
theorem tuple_Compare.calls (k : Nat) (A0 : Option Addr) (c0 : Nat) (l0 : List (Val)) (A1 : Option Addr) (c1 : Nat) (l1 : List (Val)) (r : Int) (w : World) (hr0 : Kd.C k36 w A0 l0.length l0) (hc0 : l0.length ≤ c0) (hr1 : Kd.C k36 w A1 l1.length l1) (hc1 : l1.length ≤ c1) (h : tuple_Compare.f k l0 l1 = some r) :
  Calls Tryz.prog 42 #[.slice A0 l0.length c0, .slice A1 l1.length c1] w fun e w' => e = .returned (.int .i64 r) ∧ Below w.heap.size w w' := by
 have hu36 := Tryz.underlying36
 have HR0 := am hr0
 have HC0 := am hc0
 clear hr0 hc0
 have HR1 := am hr1
 have HC1 := am hc1
 clear hr1 hc1
 have HB := am (Below.refl w.heap.size w)
 have H : (tuple_Compare.l0 k l0 l1 (mn (l0.length : Int) (l1.length : Int)) 0) = some r := h
 clear h
 obtain ⟨ji3, hji3⟩ : ∃ j_ : Int, (mn (l0.length : Int) (l1.length : Int)) = j_ := ⟨_, rfl⟩
 replace H : (tuple_Compare.l0 k l0 l1 ji3 0) = some r := by first | (rw [hji3] at H; exact H) | (simp only [hji3] at H ⊢; exact H)
 (try (have hji3l : 0 ≤ ji3 := by (rw [← hji3]; unfold mn; (repeat' split) <;> omega)))
 (try (have hji3m : 0 ≤ ji3 := by omega))
 have hji3_ : (if (l1.length : Int) < (l0.length : Int) then (l1.length : Int) else (l0.length : Int)) = ji3 := hji3
 have H' := am H
 clear H
 go_enter Tryz.func42, Tryz.ntmps42
 go_wp2
 go_loopg [12] k (fun kq v12 w' => ∃ (x12_1 : Int), v12 = .int .i64 x12_1 ∧ Aside0 (tuple_Compare.l0 kq l0 l1 ji3 x12_1 = some r) ∧ Aside0 (kq ≤ k) ∧ Aside0 (Below w.heap.size w w'))
 case atStart => exact ⟨(0), rs_, H', ⟨Nat.le_refl _⟩, ⟨pL HB.out⟩⟩
 case round =>
  clear H'
  try clear c1
  try clear p2
  obtain ⟨x12_1, rfl, HA, HK1, HB⟩ := hrel
  cases gk with
  | zero => exact absurd HA.out (by simp [tuple_Compare.l0])
  | succ k1 =>
   have H := HA.out
   clear HA
   simp only [tuple_Compare.l0] at H
   by_cases c4 : x12_1 < ji3
   rotate_left
   ·rw [if_neg c4] at H
    have c4b0 : decide (x12_1 < ji3) = false := decide_eq_false c4
    clear c4
    replace H := Option.bind_eq_some_iff.mp H
    obtain ⟨t104, A140, H⟩ := H
    replace H : (some t104) = some r := H
    have A14 := am A140
    clear A140
    obtain rfl := Option.some.inj H
    go_wp2_with (first | ((with_reducible refine gate_callee (f := 57) rfl ?_); refine goesL_ (some 32) rfl rfl Tryz.func57 (by kernel_rfl) rfl #[.int .i64 (l0.length : Int), .int .i64 (l1.length : Int)] rfl gl_ ?_; (with_reducible refine (cmp_Compare_int.calls (l0.length : Int) (l1.length : Int) t104 _ A14.out).mono ?_); rintro e w' ⟨rfl, ⟨nd, rfl⟩⟩; refine ⟨_, rfl, ?_⟩))
    go_ret
    exact ⟨by first | rfl | (simp [errW_none, errW_some] <;> rfl) | (simp only [← hji3]; first | rfl | (simp [errW_none, errW_some] <;> rfl)) | (simp [*, errW_none, errW_some] <;> rfl), pL HB.out⟩
   rw [if_pos c4] at H
   have c4b0 : decide (x12_1 < ji3) = true := decide_eq_true c4
   clear c4
   by_cases c5 : 0 ≤ x12_1
   rotate_left
   ·rw [if_neg c5] at H
    exact absurd H (by simp)
   rw [if_pos c5] at H
   have c5b0 : decide (0 ≤ x12_1) = true := decide_eq_true c5
   clear c5
   by_cases c6 : x12_1 < (l0.length : Int)
   rotate_left
   ·rw [if_neg c6] at H
    exact absurd H (by simp)
   rw [if_pos c6] at H
   have c6b0 : decide (x12_1 < (l0.length : Int)) = true := decide_eq_true c6
   clear c6
   by_cases c7 : x12_1 < (l1.length : Int)
   rotate_left
   ·rw [if_neg c7] at H
    exact absurd H (by simp)
   rw [if_pos c7] at H
   have c7b0 : decide (x12_1 < (l1.length : Int)) = true := decide_eq_true c7
   clear c7
   replace H := Option.bind_eq_some_iff.mp H
   obtain ⟨t103, A80, H⟩ := H
   replace H : (if t103 = 0 then (tuple_Compare.l0 k1 l0 l1 ji3 (wrap64 (x12_1 + 1))) else (some t103)) = some r := H
   have A8 := am A80
   clear A80
   try go_wp2
   replace HB := am (below_drew1 HB.out)
   have p101 : 0 ≤ (x12_1 : Int) := dt_
   have q101 : x12_1 < (l0.length : Int) := dt_
   obtain ⟨ad101, e101, hx101_0, hx101_1, hx101_2⟩ := at_T36 HR0.out x12_1 p101 q101
   have hw101_2 := hx101_2
   have hw101_1 := hx101_1
   have hw101_0 := hx101_0
   cases e101
   replace hx101_0 := up_ HB.out hx101_0
   replace hx101_1 := up_ HB.out hx101_1
   replace hx101_2 := up_ HB.out hx101_2
   replace p101 := eq_true p101
   replace q101 := eq_true q101
   have p102 : 0 ≤ (x12_1 : Int) := dt_
   have q102 : x12_1 < (l1.length : Int) := dt_
   obtain ⟨ad102, e102, hx102_0, hx102_1, hx102_2⟩ := at_T36 HR1.out x12_1 p102 q102
   have hw102_2 := hx102_2
   have hw102_1 := hx102_1
   have hw102_0 := hx102_0
   cases e102
   replace hx102_0 := up_ HB.out hx102_0
   replace hx102_1 := up_ HB.out hx102_1
   replace hx102_2 := up_ HB.out hx102_2
   replace p102 := eq_true p102
   replace q102 := eq_true q102
   refine start_ (n := 10) (S := fun w' => w'.cell? (ad101.add ((x12_1).toNat * 3)) = some (.bool ((rd_T36 l0 x12_1).isSym)) ∧ w'.cell? ⟨(ad101.add ((x12_1).toNat * 3)).block, (ad101.add ((x12_1).toNat * 3)).off + 1, none⟩ = some (.string ((rd_T36 l0 x12_1).sym)) ∧ w'.cell? ⟨(ad101.add ((x12_1).toNat * 3)).block, (ad101.add ((x12_1).toNat * 3)).off + 2, none⟩ = some (.int .i64 ((rd_T36 l0 x12_1).n)) ∧ w'.cell? (ad102.add ((x12_1).toNat * 3)) = some (.bool ((rd_T36 l1 x12_1).isSym)) ∧ w'.cell? ⟨(ad102.add ((x12_1).toNat * 3)).block, (ad102.add ((x12_1).toNat * 3)).off + 1, none⟩ = some (.string ((rd_T36 l1 x12_1).sym)) ∧ w'.cell? ⟨(ad102.add ((x12_1).toNat * 3)).block, (ad102.add ((x12_1).toNat * 3)).off + 2, none⟩ = some (.int .i64 ((rd_T36 l1 x12_1).n))) (ds := []) (bl 10 0) (by kernel_rfl) rfl rfl ⟨(up_ HB.out hw101_0), (up_ HB.out hw101_1), (up_ HB.out hw101_2), (up_ HB.out hw102_0), (up_ HB.out hw102_1), (up_ HB.out hw102_2)⟩ (fun hHeld => ?_); refine with_tabW tuple_Compare.tab4 tuple_Compare.bits4 (fun HT_ HW_ => ?_)
   generalize wr.drew = w10 at HB hx101_0 hx101_1 hx101_2 hx102_0 hx102_1 hx102_2 hHeld ⊢
   refine pu_ (i := 0) (N := some 15) (bl 10 1) rfl rfl (any_of HT_.out (by kernel_rfl)) ?_
   refine pu_ (i := 1) (N := some 16) (bl 10 3) rfl rfl (any_of HT_.out (by kernel_rfl)) ?_
   refine pu_ (i := 2) (N := some 17) (bl 10 7) rfl rfl (any_of HT_.out (by kernel_rfl)) ?_
   refine pu_ (i := 4) (N := some 19) (bl 10 23) rfl rfl (any_of HT_.out (by kernel_rfl)) ?_
   refine pu_ (i := 5) (N := some 20) (bl 10 55) rfl rfl (any_of HT_.out (by kernel_rfl)) ?_
   refine pu_ (i := 6) (N := some 21) (bl 10 119) rfl rfl (any_of HT_.out (by kernel_rfl)) ?_
   refine take_ (i := 3) (N := some 18) (v := ?_) (a' := ?_) (bl 10 127) rfl rfl (take_ofW HT_.out HW_.out (by kernel_rfl)) (fun _ _ _ h => h) (Or.inl ⟨by rfl, ?_⟩) hHeld ?_ ?_
   rotate_left
   ·rintro w' ⟨s0, s1, s2, s3, s4, s5⟩
    go_simp
    with_reducible rfl
   rotate_left
   ·simp only [Act.put, sA, sZ, sS, i64_w, i32_w]
    rfl
   refine take_ (i := 7) (N := some 22) (v := ?_) (a' := ?_) (bl 10 255) rfl rfl (take_ofW HT_.out HW_.out (by kernel_rfl)) (fun _ _ _ h => h) (Or.inl ⟨by rfl, ?_⟩) hHeld ?_ ?_
   rotate_left
   ·rintro w' ⟨s0, s1, s2, s3, s4, s5⟩
    go_simp
    with_reducible rfl
   rotate_left
   ·simp only [Act.put, sA, sZ, sS, i64_w, i32_w]
    rfl
   refine one_ (i := 8) (N := some 23) (bl 10 511) rfl rfl (one_of HT_.out (by kernel_rfl)) (by decide) (fun K hK => ?_)
   refine goes_ Tryz.func56 (by kernel_rfl) rfl #[.agg #[.bool ((rd_T36 l0 x12_1).isSym), .string ((rd_T36 l0 x12_1).sym), .int .i64 ((rd_T36 l0 x12_1).n)], .agg #[.bool ((rd_T36 l1 x12_1).isSym), .string ((rd_T36 l1 x12_1).sym), .int .i64 ((rd_T36 l1 x12_1).n)]] (by rfl) rfl rfl gl_ ?_
   with_reducible refine (value_Compare.calls k1 ((rd_T36 l0 x12_1).isSym) ((rd_T36 l0 x12_1).sym) ((rd_T36 l0 x12_1).n) ((rd_T36 l1 x12_1).isSym) ((rd_T36 l1 x12_1).sym) ((rd_T36 l1 x12_1).n) t103 _ A8.out).mono ?_
   rintro e w11 ⟨rfl, hb⟩
   refine ⟨_, rfl, ?_⟩
   replace HB := am (bs_ HB.out hb)
   (try clear hb)
   (try clear hb2)
   (try clear hk)
   (try clear hi)
   refine hK.out _ _ ⟨(up_ HB.out hw101_0), (up_ HB.out hw101_1), (up_ HB.out hw101_2), (up_ HB.out hw102_0), (up_ HB.out hw102_1), (up_ HB.out hw102_2)⟩ (fun hHeld => ?_)
   clear hK K
   refine norm_ (a' := ?_) ?_ ?_
   rotate_left
   ·show Act.put _ (some 23) _ = _
    simp only [Act.put, sA, sZ, sS, i64_w, i32_w]
    rfl
   refine pu_ (i := 9) (N := some 6) (bl 10 1023) rfl rfl (any_of HT_.out (by kernel_rfl)) ?_
   refine done_ (done_of HT_.out (by kernel_rfl)) ?_
   by_cases c9 : t103 = 0
   ·rw [if_pos c9] at H
    have c9b0 : (t103 == 0) = true := beq_iff_eq.mpr c9
    have c9b1 : (t103 != 0) = false := bne_eq_false_iff_eq.mpr c9
    clear c9
    have H' := am H
    clear H
    try go_wp2
    go_roundg k1
    case measure => have := HK1.out; omega
    case rel => exact ⟨(wrap64 (x12_1 + 1)), rs_, H', ⟨by have := HK1.out; omega⟩, ⟨pL HB.out⟩⟩
   rw [if_neg c9] at H
   have c9b0 : (t103 == 0) = false := beq_eq_false_iff_ne.mpr c9
   have c9b1 : (t103 != 0) = true := bne_iff_ne.mpr c9
   obtain rfl := Option.some.inj H
   try go_wp2
   go_ret
   exact ⟨by first | rfl | (simp [errW_none, errW_some] <;> rfl) | (simp only [← hji3]; first | rfl | (simp [errW_none, errW_some] <;> rfl)) | (simp [*, errW_none, errW_some] <;> rfl), pL HB.out⟩
end Go.Proofs.YtoekfmdcplphmaaGreat.H
namespace Go.Proofs.YtoekfmdcplphmaaGreat.H
open Go.RowKit Go.Proofs.YtoekfmdcplphmaaGreatW.PrintWords Go.Proofs.YtoekfmdcplphmaaGreatW.PrintLast Go.Proofs.YtoekfmdcplphmaaGreatW.PrintMore
attribute [local go_sem] max2_int min2_int max_two min_two max_three min_three max_four min_four
def join_Compare.f (k : Nat) (a0_0 : ByteArray) (l0_1 : List (Val)) (a1_0 : ByteArray) (l1_1 : List (Val)) : Option (Int) := (cmp_Compare_string.f a0_0 a1_0).bind fun t103 => ((tuple_Compare.f k l0_1 l1_1).bind fun t104 => ((cmp_Or_int.f k (([t103, t104] : List Int))).bind fun t108 => (some t108)))
theorem join_Compare.mono : ∀ a0 a1 a2 a3 k, LeO (join_Compare.f k a0 a1 a2 a3) (join_Compare.f (k + 1) a0 a1 a2 a3) := by
 intro a0 a1 a2 a3 k
 unfold join_Compare.f
 repeat' first
   | (with_reducible exact cmp_Or_int.mono _ _)
   | (with_reducible exact tuple_Compare.mono _ _ _)
   | (with_reducible exact LeO.refl _)
   | (with_reducible exact LeO.none _)
   | (with_reducible refine LeO.ite ?_ ?_)
   | (with_reducible refine LeO.bind ?_ (fun _ => ?_))
   | exact cmp_Or_int.mono _ _
   | exact tuple_Compare.mono _ _ _
   | exact LeO.none _
   | refine LeO.ite ?_ ?_
   | refine LeO.bind ?_ (fun _ => ?_)
def join_Compare.T1 : Bool × List (List Nat × List Nat) := (true, [([], []), ([0], [0]), ([], []), ([2], [2]), ([1, 3], [1, 3]), ([], []), ([5], [5]), ([], []), ([7], [7]), ([6, 8, 4], [6, 8]), ([4, 9], [4, 9]), ([10, 9], [10]), ([11, 11, 0, 1, 2, 3, 4, 5, 6, 7, 8, 9, 10, 11], [11])])
def join_Compare.B1 : List Nat := [0, 1, 0, 4, 15, 0, 32, 0, 128, 511, 1023, 2047, 4095]
theorem join_Compare.tab1 : rtab .any (opsOf Tryz.f25 1) = join_Compare.T1 := by kernel_rfl
theorem join_Compare.bits1 : waitsOk join_Compare.T1.2 join_Compare.B1 = true := by kernel_rfl
set_option maxHeartbeats 8000000 in
set_option maxRecDepth 100000 in
theorem join_Compare.calls (k : Nat) (a0_0 : ByteArray) (A0_1 : Option Addr) (c0_1 : Nat) (l0_1 : List (Val)) (a1_0 : ByteArray) (A1_1 : Option Addr) (c1_1 : Nat) (l1_1 : List (Val)) (r : Int) (w : World) (hr0_1 : Kd.C k36 w A0_1 l0_1.length l0_1) (hc0_1 : l0_1.length ≤ c0_1) (hr1_1 : Kd.C k36 w A1_1 l1_1.length l1_1) (hc1_1 : l1_1.length ≤ c1_1) (h : join_Compare.f k a0_0 l0_1 a1_0 l1_1 = some r) :
  Calls Tryz.prog 25 #[.agg #[.string a0_0, .slice A0_1 l0_1.length c0_1], .agg #[.string a1_0, .slice A1_1 l1_1.length c1_1]] w fun e w' => e = .returned (.int .i64 r) ∧ Below w.heap.size w w' := by
 have hu26 := Tryz.underlying26
 have HR0_1 := am hr0_1
 have HC0_1 := am hc0_1
 clear hr0_1 hc0_1
 have HR1_1 := am hr1_1
 have HC1_1 := am hc1_1
 clear hr1_1 hc1_1
 have HB := am (Below.refl w.heap.size w)
 have H : ((cmp_Compare_string.f a0_0 a1_0).bind fun t103 => ((tuple_Compare.f k l0_1 l1_1).bind fun t104 => ((cmp_Or_int.f k (([t103, t104] : List Int))).bind fun t108 => (some t108)))) = some r := h
 clear h
 replace H := Option.bind_eq_some_iff.mp H
 obtain ⟨t103, A30, H⟩ := H
 replace H : ((tuple_Compare.f k l0_1 l1_1).bind fun t104 => ((cmp_Or_int.f k (([t103, t104] : List Int))).bind fun t108 => (some t108))) = some r := H
 have A3 := am A30
 clear A30
 replace H := Option.bind_eq_some_iff.mp H
 obtain ⟨t104, A40, H⟩ := H
 replace H : ((cmp_Or_int.f k (([t103, t104] : List Int))).bind fun t108 => (some t108)) = some r := H
 have A4 := am A40
 clear A40
 obtain ⟨y105, hy105⟩ : ∃ y_ : List Int, y_ = (([t103, t104] : List Int)) := ⟨_, rfl⟩
 replace H : ((cmp_Or_int.f k y105).bind fun t108 => (some t108)) = some r := by first | (rw [hy105]; with_reducible exact H) | (have H2_ := (Option.bind_some _ _).symm.trans H; rw [hy105]; with_reducible exact H2_) | (have H2_ := (Option.bind_some _ _).symm.trans H; with_reducible exact H2_) | with_reducible exact H | (rw [hy105]; exact H) | exact H
 have Ny105 := am hy105
 clear hy105
 replace H := Option.bind_eq_some_iff.mp H
 obtain ⟨t108, A50, H⟩ := H
 replace H : (some t108) = some r := H
 have A5 := am A50
 clear A50
 obtain rfl := Option.some.inj H
 go_enter Tryz.func25, Tryz.ntmps25
 try go_wp2_with (first | ((with_reducible refine gate_dst (N := 2) rfl ?_); refine box_event ?hg (N := 2) ?hd (cs := #[.string a0_0, .slice A0_1 l0_1.length c0_1]) (t := 26) ?hr ?_; (case hd => rfl); (case hg => rfl); (case hr => first | (go_simp; done) | (go_simp; rfl)); intro gb101 hg w6 hbox hb; have BK101 := am (hbox); have GW101 := am (gw_ hg HB.out); have GE101 := GW101; replace HB := am (bs_ HB.out hb); clear hb hbox hg) | ((with_reducible refine gate_dst (N := 3) rfl ?_); refine box_event ?hg (N := 3) ?hd (cs := #[.string a1_0, .slice A1_1 l1_1.length c1_1]) (t := 26) ?hr ?_; (case hd => rfl); (case hg => rfl); (case hr => first | (go_simp; done) | (go_simp; rfl)); intro gb102 hg w7 hbox hb; have BK102 := am (hbox); have GW102 := am (gw_ hg HB.out); have GE102 := GW102; replace HB := am (bs_ HB.out hb); have NB101_102 := am (nb_ hg BK101.out); have NB102_101 := am NB101_102.out.symm; replace BK101 := am (bb_ BK101.out hb); clear hb hbox hg))
 replace BK101 := am (blk_drew BK101.out)
 replace BK102 := am (blk_drew BK102.out)
 replace HB := am (below_drew1 HB.out)
 refine start_ (n := 13) (S := fun w' => w'.cell? ⟨gb101, 0, none⟩ = some (.string a0_0) ∧ w'.cell? ⟨gb101, 1, none⟩ = some (.slice A0_1 l0_1.length c0_1) ∧ w'.cell? ⟨gb102, 0, none⟩ = some (.string a1_0) ∧ w'.cell? ⟨gb102, 1, none⟩ = some (.slice A1_1 l1_1.length c1_1)) (ds := []) (bl 13 0) (by kernel_rfl) rfl rfl ⟨(blk_cell BK101.out 0).trans rfl, (blk_cell BK101.out 1).trans rfl, (blk_cell BK102.out 0).trans rfl, (blk_cell BK102.out 1).trans rfl⟩ (fun hHeld => ?_); refine with_tabW join_Compare.tab1 join_Compare.bits1 (fun HT_ HW_ => ?_)
 generalize w7.drew = w8 at BK101 BK102 HB hHeld ⊢
 refine pu_ (i := 0) (N := some 5) (bl 13 1) rfl rfl (any_of HT_.out (by kernel_rfl)) ?_
 refine pu_ (i := 2) (N := some 7) (bl 13 5) rfl rfl (any_of HT_.out (by kernel_rfl)) ?_
 refine pu_ (i := 5) (N := some 10) (bl 13 37) rfl rfl (any_of HT_.out (by kernel_rfl)) ?_
 refine pu_ (i := 7) (N := some 12) (bl 13 165) rfl rfl (any_of HT_.out (by kernel_rfl)) ?_
 refine take_ (i := 1) (N := some 6) (v := ?_) (a' := ?_) (bl 13 167) rfl rfl (take_ofW HT_.out HW_.out (by kernel_rfl)) (fun _ _ _ h => h) (Or.inl ⟨by rfl, ?_⟩) hHeld ?_ ?_
 rotate_left
 ·rintro w' ⟨s0, s1, s2, s3⟩
  go_simp
  with_reducible rfl
 rotate_left
 ·simp only [Act.put, sA, sZ, sS, i64_w, i32_w]
  rfl
 refine take_ (i := 3) (N := some 8) (v := ?_) (a' := ?_) (bl 13 175) rfl rfl (take_ofW HT_.out HW_.out (by kernel_rfl)) (fun _ _ _ h => h) (Or.inl ⟨by rfl, ?_⟩) hHeld ?_ ?_
 rotate_left
 ·rintro w' ⟨s0, s1, s2, s3⟩
  go_simp
  with_reducible rfl
 rotate_left
 ·simp only [Act.put, sA, sZ, sS, i64_w, i32_w]
  rfl
 refine take_ (i := 6) (N := some 11) (v := ?_) (a' := ?_) (bl 13 239) rfl rfl (take_ofW HT_.out HW_.out (by kernel_rfl)) (fun _ _ _ h => h) (Or.inl ⟨by rfl, ?_⟩) hHeld ?_ ?_
 rotate_left
 ·rintro w' ⟨s0, s1, s2, s3⟩
  go_simp
  with_reducible rfl
 rotate_left
 ·simp only [Act.put, sA, sZ, sS, i64_w, i32_w]
  rfl
 refine take_ (i := 8) (N := some 13) (v := ?_) (a' := ?_) (bl 13 495) rfl rfl (take_ofW HT_.out HW_.out (by kernel_rfl)) (fun _ _ _ h => h) (Or.inl ⟨by rfl, ?_⟩) hHeld ?_ ?_
 rotate_left
 ·rintro w' ⟨s0, s1, s2, s3⟩
  go_simp
  with_reducible rfl
 rotate_left
 ·simp only [Act.put, sA, sZ, sS, i64_w, i32_w]
  rfl
 refine one_ (i := 4) (N := some 9) (bl 13 511) rfl rfl (one_of HT_.out (by kernel_rfl)) (by decide) (fun K hK => ?_)
 refine goes_ Tryz.func41 (by kernel_rfl) rfl #[.string a0_0, .string a1_0] (by rfl) rfl rfl gl_ ?_
 with_reducible refine (cmp_Compare_string.calls a0_0 a1_0 t103 _ A3.out).mono ?_
 rintro e w' ⟨rfl, ⟨nd, rfl⟩⟩
 refine ⟨_, rfl, ?_⟩
 refine hK.out _ _ ⟨(blk_cell BK101.out 0).trans rfl, (blk_cell BK101.out 1).trans rfl, (blk_cell BK102.out 0).trans rfl, (blk_cell BK102.out 1).trans rfl⟩ (fun hHeld => ?_)
 clear hK K
 refine norm_ (a' := ?_) ?_ ?_
 rotate_left
 ·show Act.put _ (some 9) _ = _
  simp only [Act.put, sA, sZ, sS, i64_w, i32_w]
  rfl
 refine one_ (i := 9) (N := some 14) (bl 13 1023) rfl rfl (one_of HT_.out (by kernel_rfl)) (by decide) (fun K hK => ?_)
 refine goes_ Tryz.func42 (by kernel_rfl) rfl #[.slice A0_1 l0_1.length c0_1, .slice A1_1 l1_1.length c1_1] (by rfl) rfl rfl gl_ ?_
 with_reducible refine (tuple_Compare.calls k _ _ l0_1 _ _ l1_1 t104 _ ?side1 ?side2 ?side3 ?side4 A4.out).mono ?_
 (case side1 => repeat (first | exact (Kd.C_below HR0_1.out (pL HB.out)) | (with_reducible refine Kd.C_alloc ?_ _) | (with_reducible refine Kd.C_drewN ?_ _) | (with_reducible refine Kd.C_drew ?_)))
 (case side2 => exact HC0_1.out)
 (case side3 => repeat (first | exact (Kd.C_below HR1_1.out (pL HB.out)) | (with_reducible refine Kd.C_alloc ?_ _) | (with_reducible refine Kd.C_drewN ?_ _) | (with_reducible refine Kd.C_drew ?_)))
 (case side4 => exact HC1_1.out)
 rintro e w9 ⟨rfl, hb⟩
 refine ⟨_, rfl, ?_⟩
 replace BK101 := am (bb_ BK101.out hb)
 replace BK102 := am (bb_ BK102.out hb)
 replace HB := am (bs_ HB.out hb)
 (try clear hb)
 (try clear hb2)
 (try clear hk)
 (try clear hi)
 refine hK.out _ _ ⟨(blk_cell BK101.out 0).trans rfl, (blk_cell BK101.out 1).trans rfl, (blk_cell BK102.out 0).trans rfl, (blk_cell BK102.out 1).trans rfl⟩ (fun hHeld => ?_)
 clear hK K
 refine norm_ (a' := ?_) ?_ ?_
 rotate_left
 ·show Act.put _ (some 14) _ = _
  simp only [Act.put, sA, sZ, sS, i64_w, i32_w]
  rfl
 refine one_ (i := 10) (N := some 15) (bl 13 2047) rfl rfl (one_of HT_.out (by kernel_rfl)) (by decide) (fun K hK => ?_)
 refine Kd.R_lit_step (Kd.int .i64) _ 3 ?hg (N := 15) ?hd (xs := ([t103, t104] : List Int)) (inner := [.int .i64 t103, .int .i64 t104]) (ok := fun _ => True) (okp := fun _ => True) ?hr ?hp (fun _ hk => hk) trivial (Below.refl _ _) (Nat.le_refl _) (by simp) ?_; (case hd => rfl); (case hg => rfl); (case hr => first | (go_simp; done) | (go_simp; rfl)); (case hp => exact (Reps.one (show Kd.M (Kd.int .i64) _ _ _ t103 [.int .i64 t103] from rfl) (Reps.one (show Kd.M (Kd.int .i64) _ _ _ t104 [.int .i64 t104] from rfl) (Reps.none _ _))))
 intro v106 w10 ho11 hb hg_ hnew_
 clear hg_ hnew_
 (first | rw [← Ny105.out] at ho11 | (simp only [Int.reduceToNat] at ho11; rw [← Ny105.out] at ho11))
 have HO107 := am (Kd.R_lower ho11 (below_size (pL HB.out)))
 replace BK101 := am (bb_ BK101.out hb)
 replace BK102 := am (bb_ BK102.out hb)
 replace HB := am (bs_ HB.out hb)
 clear hb ho11
 obtain ⟨Ao12, co12, eo12⟩ := Kd.R_slice HO107.out
 (first | subst eo12 | (injection eo12 with f1_ f2_ f3_; have f4_ := f1_.symm; have f5_ := f3_.symm; clear f1_ f2_ f3_; subst f4_; subst f5_))
 refine hK.out _ _ ⟨(blk_cell BK101.out 0).trans rfl, (blk_cell BK101.out 1).trans rfl, (blk_cell BK102.out 0).trans rfl, (blk_cell BK102.out 1).trans rfl⟩ (fun hHeld => ?_)
 clear hK K
 refine norm_ (a' := ?_) ?_ ?_
 rotate_left
 ·show Act.put _ (some 15) _ = _
  simp only [Act.put, sA, sZ, sS, i64_w, i32_w]
  rfl
 refine one_ (i := 11) (N := some 16) (bl 13 4095) rfl rfl (one_of HT_.out (by kernel_rfl)) (by decide) (fun K hK => ?_)
 refine goes_ Tryz.func40 (by kernel_rfl) rfl #[.slice Ao12 y105.length co12] (by rfl) rfl rfl gl_ ?_
 with_reducible refine (cmp_Or_int.calls k _ _ y105 t108 _ ?side1 ?side2 A5.out).mono ?_
 (case side1 => repeat (first | exact (Kd.R_reads' HO107.out).2.2 | (with_reducible refine Kd.C_alloc ?_ _) | (with_reducible refine Kd.C_drewN ?_ _) | (with_reducible refine Kd.C_drew ?_)))
 (case side2 => exact (Kd.R_reads' HO107.out).2.1)
 rintro e w' ⟨rfl, ⟨nd, rfl⟩⟩
 refine ⟨_, rfl, ?_⟩
 refine hK.out _ _ ⟨(blk_cell BK101.out 0).trans rfl, (blk_cell BK101.out 1).trans rfl, (blk_cell BK102.out 0).trans rfl, (blk_cell BK102.out 1).trans rfl⟩ (fun hHeld => ?_)
 clear hK K
 refine norm_ (a' := ?_) ?_ ?_
 rotate_left
 ·show Act.put _ (some 16) _ = _
  simp only [Act.put, sA, sZ, sS, i64_w, i32_w]
  rfl
 refine pu_ (i := 12) (N := some 4) (bl 13 8191) rfl rfl (any_of HT_.out (by kernel_rfl)) ?_
 refine done_ (done_of HT_.out (by kernel_rfl)) ?_
 try go_wp2
 go_ret
 exact ⟨er_, pL HB.out⟩
end Go.Proofs.YtoekfmdcplphmaaGreat.H
/- join.Compare answers as the plain order -/
namespace Go.Proofs.YtoekfmdcplphmaaGreat.H
open Go.RowKit Go.Proofs.YtoekfmdcplphmaaGreatW.PrintWords Go.Proofs.YtoekfmdcplphmaaGreatW.PrintLast Go.Proofs.YtoekfmdcplphmaaGreatW.PrintMore
theorem cmpS_f (a b : ByteArray) : cmp_Compare_string.f a b = some (cmpS a b) := by
  unfold cmp_Compare_string.f cmp_isNaN_string.f cmpS
  have h1 : (a.toList != a.toList) = false := by simp
  have h2 : (b.toList != b.toList) = false := by simp
  simp only [h1, h2, Option.bind_some]
  rw [if_neg (by decide), if_neg (by decide)]
  by_cases p : toL a < toL b
  · rw [if_pos ((ord_less a b).2 p), if_pos p]
  · rw [if_neg (fun q => p ((ord_less a b).1 q)), if_neg p]
    by_cases q : toL b < toL a
    · rw [if_pos ((ord_less b a).2 q), if_pos q]
    · rw [if_neg (fun r => q ((ord_less b a).1 r)), if_neg q]
theorem cmpI_f (a b : Int) : cmp_Compare_int.f a b = some (cmpI a b) := by
  unfold cmp_Compare_int.f cmp_isNaN_int.f cmpI
  simp
  repeat' split
  all_goals first | rfl | omega
theorem cmpI64_f (a b : Int) : cmp_Compare_int64.f a b = some (cmpI a b) := by
  unfold cmp_Compare_int64.f cmp_isNaN_int64.f cmpI
  simp
  repeat' split
  all_goals first | rfl | omega
theorem cmpV_ev (a b : Val) : Ev (fun k => value_Compare.f k a.isSym a.sym a.n b.isSym b.sym b.n) (cmpV a b) := by
  obtain ⟨s, t, n⟩ := a
  obtain ⟨s', t', n'⟩ := b
  unfold value_Compare.f cmpV
  cases s <;> cases s'
  · refine Ev.neg (by simp) ?_
    refine Ev.step (fun k => by rw [value_Compare.j0]) ?_
    refine Ev.neg (by simp) ?_
    refine Ev.neg (by simp) ?_
    refine Ev.neg (by simp) ?_
    exact Ev.pure (cmpI64_f n n') (Ev.now _)
  · refine Ev.neg (by simp) ?_
    refine Ev.step (fun k => by rw [value_Compare.j0]) ?_
    refine Ev.neg (by simp) ?_
    refine Ev.neg (by simp) ?_
    refine Ev.pos rfl ?_
    exact Ev.now _
  · refine Ev.pos rfl ?_
    refine Ev.step (fun k => by rw [value_Compare.j0]) ?_
    refine Ev.neg (by simp) ?_
    refine Ev.pos rfl ?_
    exact Ev.now _
  · refine Ev.pos rfl ?_
    refine Ev.step (fun k => by rw [value_Compare.j0]) ?_
    refine Ev.pos rfl ?_
    exact Ev.pure (cmpS_f t t') (Ev.now _)
theorem cmpR_l0 (a b : List Val) (ha : a.length ≤ 9223372036854775807) (hb : b.length ≤ 9223372036854775807) : ∀ (r : List Val) (i : Nat), a.drop i = r → i ≤ a.length → i ≤ b.length →
    Ev (fun k => tuple_Compare.l0 k a b (mn (a.length : Int) (b.length : Int)) i) (cmpR r (b.drop i))
  | [], i, h, hia, hib => by
    have e := drop_end h
    refine Ev.step (fun k => by rw [tuple_Compare.l0]) (Ev.neg (by unfold mn; split <;> omega) ?_)
    refine Ev.pure (cmpI_f _ _) (Ev.some ?_)
    cases hd : b.drop i with
    | nil =>
      have e2 := drop_end hd
      rw [cmpR]
      exact cmpI_zero.2 (by omega)
    | cons y m =>
      have := (drop_more hd hb).1
      rw [cmpR]
      unfold cmpI
      rw [if_pos (by omega)]
  | x :: r, i, h, hia, hib => by
    obtain ⟨g1, g2, g3, g4, g5⟩ := drop_more h ha
    cases hd : b.drop i with
    | nil =>
      have e2 := drop_end hd
      refine Ev.step (fun k => by rw [tuple_Compare.l0]) (Ev.neg (by unfold mn; split <;> omega) ?_)
      refine Ev.pure (cmpI_f _ _) (Ev.some ?_)
      rw [cmpR]
      unfold cmpI
      rw [if_neg (by omega), if_pos (by omega)]
    | cons y m =>
      obtain ⟨f1, f2, f3, f4, f5⟩ := drop_more hd hb
      refine Ev.step (fun k => by rw [tuple_Compare.l0]) (Ev.pos (by unfold mn; split <;> omega) (Ev.pos g2 (Ev.pos g1 (Ev.pos f1 ?_))))
      rw [show rd_T36 a i = x from g3 _, show rd_T36 b i = y from f3 _, g5, cmpR]
      refine Ev.bind (cmpV_ev x y) ?_
      by_cases c : cmpV x y = 0
      · refine Ev.pos c ?_
        rw [lex2, if_pos c, ← f4]
        exact cmpR_l0 a b ha hb r (i + 1) g4 (by omega) (by omega)
      · refine Ev.neg c (Ev.some ?_)
        rw [lex2, if_neg c]
theorem cmpR_ev (a b : List Val) (ha : a.length ≤ 9223372036854775807) (hb : b.length ≤ 9223372036854775807) : Ev (fun k => tuple_Compare.f k a b) (cmpR a b) := by
  unfold tuple_Compare.f
  exact cmpR_l0 a b ha hb a 0 rfl (by omega) (by omega)
theorem or2_ev (a b : Int) : Ev (fun k => cmp_Or_int.f k [a, b]) (lex2 a b) := by
  unfold cmp_Or_int.f lex2
  refine Ev.step (fun k => by rw [cmp_Or_int.l0]) (Ev.pos (by simp) (Ev.pos (by decide) (Ev.pos (by simp) ?_)))
  rw [show rd [a, b] 0 = a from rfl, show wrap64 (0 + 1) = 1 from by unfold wrap64; omega]
  by_cases c : a = 0
  · refine Ev.pos c ?_
    rw [if_pos c]
    refine Ev.step (fun k => by rw [cmp_Or_int.l0]) (Ev.pos (by simp) (Ev.pos (by decide) (Ev.pos (by simp) ?_)))
    rw [show rd [a, b] 1 = b from rfl, show wrap64 (1 + 1) = 2 from by unfold wrap64; omega]
    by_cases d : b = 0
    · refine Ev.pos d ?_
      refine Ev.step (fun k => by rw [cmp_Or_int.l0]) (Ev.neg (by simp) (Ev.some d.symm))
    · exact Ev.neg d (Ev.now _)
  · refine Ev.neg c (Ev.some ?_)
    rw [if_neg c]
theorem cmpF_ev (f g : Fact) (hf : f.args.length ≤ 9223372036854775807) (hg : g.args.length ≤ 9223372036854775807) : Ev (fun k => join_Compare.f k f.pred f.args g.pred g.args) (cmpF f g) := by
  unfold join_Compare.f cmpF
  refine Ev.pure (cmpS_f _ _) ?_
  refine Ev.bind (cmpR_ev _ _ hf hg) ?_
  exact Ev.bind (or2_ev _ _) (Ev.now _)
end Go.Proofs.YtoekfmdcplphmaaGreat.H
/- value.Compare, tuple.Compare, told with the world that they leave: some draws on, some blocks behind -/
namespace Go.Proofs.YtoekfmdcplphmaaGreat.H
open Go.RowKit Go.Sort Go.Proofs.YtoekfmdcplphmaaGreatW.PrintWords Go.Proofs.YtoekfmdcplphmaaGreatW.PrintLast Go.Proofs.YtoekfmdcplphmaaGreatW.PrintMore
attribute [local go_sem] min2_mn min_two
theorem drawn_grow {w w' : World} (h : Drawn0 w w') : ∃ m, w' = w.drewN m := by
  obtain ⟨m, rfl⟩ := h
  exact ⟨m, rfl⟩
set_option maxHeartbeats 4000000 in
set_option maxRecDepth 100000 in
theorem valueCmp (x y : Val) (W : World) :
    Calls Tryz.prog 56 #[.agg #[.bool x.isSym, .string x.sym, .int .i64 x.n], .agg #[.bool y.isSym, .string y.sym, .int .i64 y.n]] W fun e w' => e = .returned (.int .i64 (cmpV x y)) ∧ GrW W w' := by
  have hu := Tryz.underlying36
  obtain ⟨s, t, n⟩ := x
  obtain ⟨s', t', n'⟩ := y
  unfold cmpV
  have h1 := cmpS_f t t'
  have h2 := cmpI64_f n n'
  generalize cmpS t t' = r1 at h1 ⊢
  generalize cmpI n n' = r2 at h2 ⊢
  have H1 := Aside0.mk h1
  have H2 := Aside0.mk h2
  clear h1 h2
  cases s <;> cases s'
  all_goals dsimp only [Bool.false_eq_true, if_true, if_false]
  all_goals go_enter Tryz.func56, Tryz.ntmps56
  all_goals go_wp2_with (first | (go_at_call 41; refine (cmp_Compare_string.calls t t' r1 _ H1.out).mono ?_; rintro e w2 ⟨rfl, hd⟩; obtain ⟨m, rfl⟩ := drawn_grow hd; clear hd) | (go_at_call 76; refine (cmp_Compare_int64.calls n n' r2 _ H2.out).mono ?_; rintro e w2 ⟨rfl, hd⟩; obtain ⟨m, rfl⟩ := drawn_grow hd; clear hd))
  all_goals go_ret
  all_goals exact ⟨rfl, by repeat (first | exact GrW.refl _ | refine GrW.drewN ?_ _ | refine GrW.drew ?_ | refine GrW.alloc ?_ _)⟩
theorem cmpR_at {l0 l1 : List Val} {kk : Nat} {x y : Val} (hx : l0[kk]? = some x) (hy : l1[kk]? = some y) : cmpR (l0.drop kk) (l1.drop kk) = lex2 (cmpV x y) (cmpR (l0.drop (kk + 1)) (l1.drop (kk + 1))) := by
  rw [drop_cons hx, drop_cons hy, cmpR]
set_option maxHeartbeats 4000000 in
set_option maxRecDepth 100000 in
theorem tupleCmp (A0 : Option Addr) (c0 : Nat) (l0 : List Val) (A1 : Option Addr) (c1 : Nat) (l1 : List Val) (W : World) (hr0 : Kd.C k36 W A0 l0.length l0) (hr1 : Kd.C k36 W A1 l1.length l1) :
    Calls Tryz.prog 42 #[.slice A0 l0.length c0, .slice A1 l1.length c1] W fun e w' => e = .returned (.int .i64 (cmpR l0 l1)) ∧ GrW W w' := by
  have hu := Tryz.underlying36
  have hl0 : l0.length ≤ 9223372036854775807 := hr0.2.1
  have hl1 : l1.length ≤ 9223372036854775807 := hr1.2.1
  have HR0 := Aside0.mk hr0
  have HR1 := Aside0.mk hr1
  clear hr0 hr1
  have mixed : Tryz.prog.follows .mixedOrders = true := by kernel_rfl
  obtain ⟨m, hm⟩ : ∃ m : Int, mn (l0.length : Int) (l1.length : Int) = m := ⟨_, rfl⟩
  have hm1 : m = l0.length ∨ m = l1.length := by rw [← hm]; unfold mn; split <;> omega
  have hm2 : m ≤ l0.length := by rw [← hm]; unfold mn; split <;> omega
  have hm3 : m ≤ l1.length := by rw [← hm]; unfold mn; split <;> omega
  go_enter Tryz.func42, Tryz.ntmps42
  go_wp2
  go_loopg [12] l0.length (fun gg s12 wr => ∃ kk : Nat, s12 = .int .i64 kk ∧ kk ≤ l0.length ∧ kk ≤ l1.length ∧ (kk : Int) ≤ m ∧ l0.length - kk ≤ gg ∧ Aside0 (GrW W wr) ∧ Aside0 (cmpR l0 l1 = cmpR (l0.drop kk) (l1.drop kk)))
  case atStart => exact ⟨0, rfl, by omega, by omega, by omega, by omega, ⟨GrW.refl W⟩, ⟨rfl⟩⟩
  case round =>
    obtain ⟨kk, rfl, hk0, hk1, hkm, hgg, HG, HA⟩ := hrel
    by_cases hlt : (kk : Int) < m
    · have h0 : kk < l0.length := by omega
      have h1 : kk < l1.length := by omega
      have h0z : (kk : Int) < (l0.length : Int) := by omega
      have h1z : (kk : Int) < (l1.length : Int) := by omega
      obtain ⟨x, hx⟩ := at_some h0
      obtain ⟨y, hy⟩ := at_some h1
      have hx' := at_Val HR0.out hx
      have hy' := at_Val HR1.out hy
      have HX := Aside0.mk (HA.out.trans (cmpR_at hx hy))
      clear HA hx hy
      obtain ⟨ad, e1, hx0, hx1, hx2⟩ := hx'
      obtain ⟨iad, ie1, ihx0, ihx1, ihx2⟩ := hy'
      cases e1
      cases ie1
      replace hx0 := GrW.old HG.out hx0
      replace hx1 := GrW.old HG.out hx1
      replace hx2 := GrW.old HG.out hx2
      replace ihx0 := GrW.old HG.out ihx0
      replace ihx1 := GrW.old HG.out ihx1
      replace ihx2 := GrW.old HG.out ihx2
      obtain ⟨r, hr⟩ : ∃ r : Int, cmpV x y = r := ⟨_, rfl⟩
      rw [hr] at HX
      have HV := Aside0.mk (fun W => hr ▸ valueCmp x y W)
      by_cases hq : r = 0
      · have e0 : (decide (r = 0)) = true := decide_eq_true hq
        subst hq
        go_wp2
        go_quiet_grown (first | (go_at_call 56; refine Calls.grown_of (HV.out _)))
        go_wp2
        go_roundg (l0.length - (kk + 1))
        case measure => omega
        case rel => exact ⟨kk + 1, by go_num, by omega, by omega, by omega, by omega, ⟨HG.out.grow _ _⟩, ⟨HX.out.trans (by rw [lex2, if_pos rfl])⟩⟩
      · go_wp2
        go_quiet_grown (first | (go_at_call 56; refine Calls.grown_of (HV.out _)))
        go_wp2
        go_ret
        exact ⟨by rw [HX.out, lex2, if_neg hq]; rfl, HG.out.grow _ _⟩
    · have hz : cmpI l0.length l1.length = cmpR (l0.drop kk) (l1.drop kk) := by
        rcases hm1 with e | e
        · have e0 : kk = l0.length := by omega
          subst e0
          rw [List.drop_length]
          rcases Nat.lt_or_ge l0.length l1.length with h | h
          · obtain ⟨y, r, hd, _⟩ := at_more h
            rw [hd, cmpR]; unfold cmpI; rw [if_pos (by omega)]
          · rw [List.drop_eq_nil_of_le h, cmpR]; exact cmpI_zero.2 (by omega)
        · have e0 : kk = l1.length := by omega
          subst e0
          rw [List.drop_length]
          rcases Nat.lt_or_ge l1.length l0.length with h | h
          · obtain ⟨y, r, hd, _⟩ := at_more h
            rw [hd, cmpR]; unfold cmpI; rw [if_neg (by omega), if_pos (by omega)]
          · rw [List.drop_eq_nil_of_le h, cmpR]; exact cmpI_zero.2 (by omega)
      have HZ := Aside0.mk (hz.trans HA.out.symm)
      have HI := Aside0.mk (cmpI_f l0.length l1.length)
      clear hz
      go_wp2_with (go_at_call 57; refine (cmp_Compare_int.calls _ _ _ _ HI.out).mono ?_; rintro e w2 ⟨rfl, hd⟩; obtain ⟨m2, rfl⟩ := drawn_grow hd; clear hd)
      go_ret
      exact ⟨by rw [HZ.out]; rfl, HG.out.drewN _⟩
end Go.Proofs.YtoekfmdcplphmaaGreat.H
/- join.Compare, told with the world that it leaves (made by wip/gen/gjoincmp.py) -/
namespace Go.Proofs.YtoekfmdcplphmaaGreat.H
open Go.RowKit Go.Sort Go.Proofs.YtoekfmdcplphmaaGreatW.PrintWords Go.Proofs.YtoekfmdcplphmaaGreatW.PrintLast Go.Proofs.YtoekfmdcplphmaaGreatW.PrintMore
set_option maxHeartbeats 4000000 in
set_option maxRecDepth 100000 in
theorem joinCmp (x y : Fact) (A0 : Option Addr) (c0 : Nat) (A1 : Option Addr) (c1 : Nat) (W : World) (hr0 : Kd.C k36 W A0 x.args.length x.args) (hr1 : Kd.C k36 W A1 y.args.length y.args) :
    Calls Tryz.prog 25 #[.agg #[.string x.pred, .slice A0 x.args.length c0], .agg #[.string y.pred, .slice A1 y.args.length c1]] W fun e w' => e = .returned (.int .i64 (cmpF x y)) ∧ GrW W w' := by
  have HC1 := Aside0.mk (cmpS_f x.pred y.pred)
  have HR0 := Aside0.mk hr0
  have HR1 := Aside0.mk hr1
  unfold cmpF
  obtain ⟨r1, hr1_⟩ : ∃ r : Int, cmpS x.pred y.pred = r := ⟨_, rfl⟩
  obtain ⟨r2, hr2_⟩ : ∃ r : Int, cmpR x.args y.args = r := ⟨_, rfl⟩
  rw [hr1_] at HC1 ⊢
  have HC2 := Aside0.mk (fun W2 h0 h1 => hr2_ ▸ tupleCmp A0 c0 x.args A1 c1 y.args W2 h0 h1)
  rw [hr2_]
  obtain ⟨k3, hk3⟩ := Ev.rounds (or2_ev r1 r2)
  have HC3 := Aside0.mk hk3
  clear hr0 hr1 hr1_ hr2_ hk3
  go_enter Tryz.func25, Tryz.ntmps25
  go_wp2
  obtain ⟨ww, hww⟩ : ∃ ww, ww = ((W.alloc (.cells #[.string x.pred, .slice A0 x.args.length c0] 26)).alloc (.cells #[.string y.pred, .slice A1 y.args.length c1] 26)).drew := ⟨_, rfl⟩
  have G0 := Aside0.mk (show GrW W ww from hww ▸ (((GrW.refl W).alloc _).alloc _).drew)
  have g0 : ww.heap[W.heap.size]? = some (.cells #[.string x.pred, .slice A0 x.args.length c0] 26 (0, 0)) := hww ▸ blk_alloc (blk_new W _) _
  have g1 : ww.heap[W.heap.size + 1]? = some (.cells #[.string y.pred, .slice A1 y.args.length c1] 26 (0, 0)) := by
    have := blk_new (W.alloc (.cells #[.string x.pred, .slice A0 x.args.length c0] 26)) (.cells #[.string y.pred, .slice A1 y.args.length c1] 26)
    rw [show (W.alloc (.cells #[.string x.pred, .slice A0 x.args.length c0] 26)).heap.size = W.heap.size + 1 by simp] at this
    exact hww ▸ this
  have hS0 : (ww.cell? ⟨W.heap.size, 0, none⟩ = some (.string x.pred) ∧ ww.cell? ⟨W.heap.size, 1, none⟩ = some (.slice A0 x.args.length c0)) ∧ (ww.cell? ⟨W.heap.size + 1, 0, none⟩ = some (.string y.pred) ∧ ww.cell? ⟨W.heap.size + 1, 1, none⟩ = some (.slice A1 y.args.length c1)) := ⟨⟨(blk_cell g0 0).trans rfl, (blk_cell g0 1).trans rfl⟩, ⟨(blk_cell g1 0).trans rfl, (blk_cell g1 1).trans rfl⟩⟩
  have HS : Aside0 (∀ w', GrW ww w' → (w'.cell? ⟨W.heap.size, 0, none⟩ = some (.string x.pred) ∧ w'.cell? ⟨W.heap.size, 1, none⟩ = some (.slice A0 x.args.length c0)) ∧ (w'.cell? ⟨W.heap.size + 1, 0, none⟩ = some (.string y.pred) ∧ w'.cell? ⟨W.heap.size + 1, 1, none⟩ = some (.slice A1 y.args.length c1))) := ⟨fun w' h => ⟨⟨Below.old h.below hS0.1.1, Below.old h.below hS0.1.2⟩, ⟨Below.old h.below hS0.2.1, Below.old h.below hS0.2.2⟩⟩⟩
  have HWW := Aside0.mk hww
  have hS := hS0
  rw [hww] at hS
  clear hww g0 g1 hS0
  refine start_ (n := 13) (S := fun w' => (w'.cell? ⟨W.heap.size, 0, none⟩ = some (.string x.pred) ∧ w'.cell? ⟨W.heap.size, 1, none⟩ = some (.slice A0 x.args.length c0)) ∧ (w'.cell? ⟨W.heap.size + 1, 0, none⟩ = some (.string y.pred) ∧ w'.cell? ⟨W.heap.size + 1, 1, none⟩ = some (.slice A1 y.args.length c1))) (ds := []) (bl 13 0) (by kernel_rfl) rfl rfl hS (fun hHeld => ?_)
  clear hS
  rw [← HWW.out] at hHeld ⊢
  clear HWW
  refine pure_ (i := 0) (N := some 5) (v := ?_) (a' := ?_) (bl 13 1) rfl rfl (by kernel_rfl) (fun _ _ _ h => h) (Or.inl ⟨by rfl, ?_⟩) ?_ ?_
  rotate_left
  · intro w'
    go_simp
    with_reducible rfl
  rotate_left
  · simp only [Act.put, sA, sZ, sS]
    rfl
  refine pure_ (i := 2) (N := some 7) (v := ?_) (a' := ?_) (bl 13 5) rfl rfl (by kernel_rfl) (fun _ _ _ h => h) (Or.inl ⟨by rfl, ?_⟩) ?_ ?_
  rotate_left
  · intro w'
    go_simp
    with_reducible rfl
  rotate_left
  · simp only [Act.put, sA, sZ, sS]
    rfl
  refine pure_ (i := 5) (N := some 10) (v := ?_) (a' := ?_) (bl 13 37) rfl rfl (by kernel_rfl) (fun _ _ _ h => h) (Or.inl ⟨by rfl, ?_⟩) ?_ ?_
  rotate_left
  · intro w'
    go_simp
    with_reducible rfl
  rotate_left
  · simp only [Act.put, sA, sZ, sS]
    rfl
  refine pure_ (i := 7) (N := some 12) (v := ?_) (a' := ?_) (bl 13 165) rfl rfl (by kernel_rfl) (fun _ _ _ h => h) (Or.inl ⟨by rfl, ?_⟩) ?_ ?_
  rotate_left
  · intro w'
    go_simp
    with_reducible rfl
  rotate_left
  · simp only [Act.put, sA, sZ, sS]
    rfl
  refine take_ (i := 1) (N := some 6) (v := ?_) (a' := ?_) (bl 13 167) rfl rfl (by kernel_rfl) (fun _ _ _ h => h) (Or.inl ⟨by rfl, ?_⟩) hHeld ?_ ?_
  rotate_left
  · intro w' hSw
    (try dsimp only at hSw)
    go_split_ands
    go_simp
    with_reducible rfl
  rotate_left
  · simp only [Act.put, sA, sZ, sS]
    rfl
  refine take_ (i := 3) (N := some 8) (v := ?_) (a' := ?_) (bl 13 175) rfl rfl (by kernel_rfl) (fun _ _ _ h => h) (Or.inl ⟨by rfl, ?_⟩) hHeld ?_ ?_
  rotate_left
  · intro w' hSw
    (try dsimp only at hSw)
    go_split_ands
    go_simp
    with_reducible rfl
  rotate_left
  · simp only [Act.put, sA, sZ, sS]
    rfl
  refine take_ (i := 6) (N := some 11) (v := ?_) (a' := ?_) (bl 13 239) rfl rfl (by kernel_rfl) (fun _ _ _ h => h) (Or.inl ⟨by rfl, ?_⟩) hHeld ?_ ?_
  rotate_left
  · intro w' hSw
    (try dsimp only at hSw)
    go_split_ands
    go_simp
    with_reducible rfl
  rotate_left
  · simp only [Act.put, sA, sZ, sS]
    rfl
  refine take_ (i := 8) (N := some 13) (v := ?_) (a' := ?_) (bl 13 495) rfl rfl (by kernel_rfl) (fun _ _ _ h => h) (Or.inl ⟨by rfl, ?_⟩) hHeld ?_ ?_
  rotate_left
  · intro w' hSw
    (try dsimp only at hSw)
    go_split_ands
    go_simp
    with_reducible rfl
  rotate_left
  · simp only [Act.put, sA, sZ, sS]
    rfl
  refine one_ (i := 4) (N := some 9) (bl 13 511) rfl rfl (by kernel_rfl) (by decide) (fun K hK => ?_)
  refine goes_ Tryz.func41 (by kernel_rfl) rfl #[.string x.pred, .string y.pred] (by rfl) rfl rfl (by (try simp only [List.map_toArray, List.map_cons, List.map_nil]); first | done | rfl) ?_
  refine (cmp_Compare_string.calls _ _ _ _ HC1.out).mono ?_
  rintro e w1 ⟨rfl, hd⟩
  refine ⟨_, rfl, ?_⟩
  have G1 := Aside0.mk (show GrW ww w1 from by obtain ⟨m, rfl⟩ := drawn_grow hd; exact (GrW.refl _).drewN m)
  clear hd
  refine hK.out _ _ (HS.out _ G1.out) (fun hHeld => ?_)
  clear hK K
  refine norm_ (a' := ?_) ?_ ?_
  rotate_left
  · show Act.put _ (some 9) _ = _
    simp only [Act.put, sA, sZ, sS]
    rfl
  refine one_ (i := 9) (N := some 14) (bl 13 1023) rfl rfl (by kernel_rfl) (by decide) (fun K hK => ?_)
  refine goes_ Tryz.func42 (by kernel_rfl) rfl #[.slice A0 x.args.length c0, .slice A1 y.args.length c1] (by rfl) rfl rfl (by (try simp only [List.map_toArray, List.map_cons, List.map_nil]); first | done | rfl) ?_
  refine (HC2.out _ (Kd.C_below HR0.out (G0.out.trans G1.out).below) (Kd.C_below HR1.out (G0.out.trans G1.out).below)).mono ?_
  rintro e w2 ⟨rfl, hd⟩
  refine ⟨_, rfl, ?_⟩
  have G2 := Aside0.mk (G1.out.trans hd)
  clear hd
  refine hK.out _ _ (HS.out _ G2.out) (fun hHeld => ?_)
  clear hK K
  refine norm_ (a' := ?_) ?_ ?_
  rotate_left
  · show Act.put _ (some 14) _ = _
    simp only [Act.put, sA, sZ, sS]
    rfl
  refine one_ (i := 10) (N := some 15) (bl 13 2047) rfl rfl (by kernel_rfl) (by decide) (fun K hK => ?_)
  refine value_ (v := .slice (some ⟨w2.heap.size, 0, none⟩) 2 2) (w1 := w2.alloc (.cells #[.int .i64 r1, .int .i64 r2] 3)) (by rfl) rfl ?_ ?_
  · go_simp
  refine hK.out _ _ (HS.out _ (G2.out.alloc _)) (fun hHeld => ?_)
  clear hK K
  refine norm_ (a' := ?_) ?_ ?_
  rotate_left
  · show Act.put _ (some 15) _ = _
    simp only [Act.put, sA, sZ, sS]
    rfl
  refine one_ (i := 11) (N := some 16) (bl 13 4095) rfl rfl (by kernel_rfl) (by decide) (fun K hK => ?_)
  refine goes_ Tryz.func40 (by kernel_rfl) rfl #[.slice (some ⟨w2.heap.size, 0, none⟩) 2 2] (by rfl) rfl rfl (by (try simp only [List.map_toArray, List.map_cons, List.map_nil]); first | done | rfl) ?_
  refine (cmp_Or_int.calls k3 _ 2 [r1, r2] _ _ (C_cells (blk_new _ _) (Kd.reps_scalar [r1, r2]) (by simp)) (by simp) HC3.out).mono ?_
  rintro e w4 ⟨rfl, hd⟩
  refine ⟨_, rfl, ?_⟩
  have G4 := Aside0.mk (show GrW ww w4 from by obtain ⟨m, rfl⟩ := drawn_grow hd; exact (G2.out.alloc _).drewN m)
  clear hd
  refine hK.out _ _ (HS.out _ G4.out) (fun hHeld => ?_)
  clear hK K
  refine norm_ (a' := ?_) ?_ ?_
  rotate_left
  · show Act.put _ (some 16) _ = _
    simp only [Act.put, sA, sZ, sS]
    rfl
  refine pure_ (i := 12) (N := some 4) (v := ?_) (a' := ?_) (bl 13 8191) rfl rfl (by kernel_rfl) (fun _ _ _ h => h) (Or.inl ⟨by rfl, ?_⟩) ?_ ?_
  rotate_left
  · intro w'
    go_simp
    with_reducible rfl
  rotate_left
  · simp only [Act.put, sA, sZ, sS]
    rfl
  refine done_ (by kernel_rfl) ?_
  go_wp2
  go_ret
  exact ⟨rfl, G0.out.trans G4.out⟩
end Go.Proofs.YtoekfmdcplphmaaGreat.H
/- slices.CompactFunc at facts, with join.Sort's closure -/
namespace Go.Proofs.YtoekfmdcplphmaaGreat.H
open Go.RowKit Go.Sort Go.Proofs.YtoekfmdcplphmaaGreatW.PrintWords Go.Proofs.YtoekfmdcplphmaaGreatW.PrintLast Go.Proofs.YtoekfmdcplphmaaGreatW.PrintMore
theorem old_grow {w : World} {a : Addr} {v : Value} (h : w.cell? a = some v) : ∀ n os, (grow (w.drewN n) os).cell? a = some v := GrW.old (GrW.refl w) h
set_option maxRecDepth 100000 in
theorem eqFact (x y : Fact) (A0 : Option Addr) (c0 : Nat) (A1 : Option Addr) (c1 : Nat) (b : Bool) (W : World) (hb : b = decide (cmpF x y = 0)) (hr0 : Kd.C k36 W A0 x.args.length x.args) (hr1 : Kd.C k36 W A1 y.args.length y.args) :
    Calls Tryz.prog 35 #[.agg #[.string x.pred, .slice A0 x.args.length c0], .agg #[.string y.pred, .slice A1 y.args.length c1]] W fun e w' => e = .returned (.bool b) ∧ GrW W w' := by
  have HG := Aside0.mk (((GrW.refl W).alloc (.cells #[.string x.pred, .slice A0 x.args.length c0] 26)).alloc (.cells #[.string y.pred, .slice A1 y.args.length c1] 26))
  have HK := Aside0.mk (joinCmp x y A0 c0 A1 c1 _ (Kd.C_below hr0 HG.out.below) (Kd.C_below hr1 HG.out.below))
  clear hr0 hr1
  obtain ⟨r, hr⟩ : ∃ r : Int, cmpF x y = r := ⟨_, rfl⟩
  rw [hr] at HK hb
  clear hr
  by_cases hz : r = 0
  · have e : b = true := by rw [hb]; exact decide_eq_true hz
    subst hz
    subst e
    clear hb
    go_enter Tryz.func35, Tryz.ntmps35
    go_wp2_with (go_at_call 25; refine HK.out.mono ?_; rintro e w2 ⟨rfl, hg⟩; have HH := Aside0.mk hg; clear hg)
    go_ret
    exact ⟨rfl, HG.out.trans HH.out⟩
  · have e : b = false := by rw [hb]; exact decide_eq_false hz
    subst e
    clear hb
    go_enter Tryz.func35, Tryz.ntmps35
    go_wp2_with (go_at_call 25; refine HK.out.mono ?_; rintro e w2 ⟨rfl, hg⟩; have HH := Aside0.mk hg; clear hg)
    go_ret
    exact ⟨by simp [hz], HG.out.trans HH.out⟩
def GCompactFact.f (l : List Fact) : Option (List Fact) := if bareL l = true then some (dd l) else none
theorem eq_bare {l : List Fact} (h : bareL l = true) {x y : Fact} {i j : Nat} (hx : l[i]? = some x) (hy : l[j]? = some y) : cmpF x y = 0 ↔ x = y := by
  unfold bareL at h
  rw [List.all_eq_true] at h
  exact cmpF_zero (h x (List.mem_of_getElem? hx)) (h y (List.mem_of_getElem? hy))
theorem two_cells {w : World} {b i : Nat} {u v : Value} (h0 : w.cell? ⟨b, i, none⟩ = some u) (h1 : w.cell? ⟨b, i + 1, none⟩ = some v) : ∀ j z, [u, v][j]? = some z → w.cell? ⟨b, i + j, none⟩ = some z := by
  intro j z hj
  rcases j with _ | _ | j
  · simp at hj; subst hj; simpa using h0
  · simp at hj; subst hj; exact h1
  · simp at hj
set_option maxHeartbeats 8000000 in
set_option maxRecDepth 100000 in
theorem CompactFact (base : Nat) (ok : Nat → Prop) (v : Value) (l : List Fact) (w : World) (ho : Kd.R k26 26 w base ok v l) (hbare : bareL l = true) :
    Calls Tryz.prog 34 #[v, .func (.func 35) #[] #[]] w fun e w' => ∃ v', e = .returned v' ∧ Kd.R k26 26 w' base ok v' (dd l) ∧ w.grownBy w' v.ownBlock ∧ v'.ownBlock = v.ownBlock := by
  have hu := Tryz.underlying26
  have mixed : Tryz.prog.follows .mixedOrders = true := by kernel_rfl
  obtain ⟨A, c, rfl, hlc, hC⟩ := Kd.R_reads ho
  have hl : l.length ≤ 9223372036854775807 := hC.2.1
  have HBARE := Aside0.mk hbare
  clear hbare
  by_cases h2 : l.length < 2
  · have hd : dd l = l := by
      rcases l with _ | ⟨a, _ | ⟨b, l⟩⟩
      · rfl
      · rfl
      · rw [List.length_cons, List.length_cons] at h2; omega
    have h2z : (l.length : Int) < 2 := by omega
    have HO := Aside0.mk ho
    have HD := Aside0.mk hd
    clear ho hC hd
    go_enter Tryz.func34, Tryz.ntmps34
    go_wp2
    go_ret
    exact ⟨_, rfl, by rw [HD.out]; exact HO.out, World.grownBy.refl _ _, rfl⟩
  · have h2z : ¬ (l.length : Int) < 2 := by omega
    obtain ⟨b, cap, e2, hbb, hbl, cells0, hcells0⟩ := Kd.R_form ho (by omega)
    cases e2
    have HO := Aside0.mk ho
    clear ho hC hcells0
    go_enter Tryz.func34, Tryz.ntmps34
    go_wp2
    go_loopg [5] l.length (fun gg s5 wr => ∃ (k : Nat), s5 = .int .i64 k ∧ 1 ≤ k ∧ k ≤ l.length ∧ l.length - k ≤ gg ∧ Aside0 (Apt l k) ∧ Aside0 (Kd.R k26 26 wr base ok (.slice (some ⟨b, 0, none⟩) l.length c) l) ∧ Aside0 (w.grownBy wr (some b)))
    case atStart => exact ⟨1, rfl, by omega, by omega, by omega, ⟨fun i x y hi => by omega⟩, HO, ⟨World.grownBy.refl _ _⟩⟩
    case round =>
      clear HO
      obtain ⟨k, rfl, hk1, hkl, hgg, HI, HO, HG⟩ := hrel
      by_cases hlt : k < l.length
      · have hltz : (k : Int) < (l.length : Int) := by omega
        obtain ⟨y, hy⟩ := at_some hlt
        obtain ⟨x, hx⟩ := at_some (l := l) (k := k - 1) (by omega)
        obtain ⟨-, -, hC⟩ := Kd.R_reads' HO.out
        have hyc := at_Fact hC hy
        have hxc := at_Fact hC hx
        have hyx := eq_bare HBARE.out hy hx
        have HY := Aside0.mk hy
        have HX := Aside0.mk hx
        clear hy hx hC
        obtain ⟨ad, A1, c1, e1, hx0, hx1, l1, g1⟩ := hyc
        cases e1
        obtain ⟨iad, iA1, ic1, ie1, ihx0, ihx1, il1, ig1⟩ := hxc
        cases ie1
        simp only [add_plain] at hx0 hx1 ihx0 ihx1
        have hw : IntKind.i64.wrap ((k : Int) - 1) = ((k - 1 : Nat) : Int) := by rw [i64_w]; unfold wrap64; omega
        have hk3 : (0 : Int) ≤ ((k - 1 : Nat) : Int) := by omega
        have hk4 : ((k - 1 : Nat) : Int) < (l.length : Int) := by omega
        obtain ⟨bb, hbb2⟩ : ∃ bb : Bool, bb = decide (cmpF y x = 0) := ⟨_, rfl⟩
        have HV := Aside0.mk (fun W2 (h : Below wr.heap.size wr W2) => eqFact y x A1 c1 iA1 ic1 bb W2 hbb2 (Kd.C_below g1 h) (Kd.C_below ig1 h))
        replace hx0 := old_grow hx0
        replace hx1 := old_grow hx1
        replace ihx0 := old_grow ihx0
        replace ihx1 := old_grow ihx1
        clear g1 ig1
        by_cases hq : y = x
        · obtain rfl : bb = true := by rw [hbb2]; exact decide_eq_true (hyx.2 hq)
          have HQ := Aside0.mk hq
          clear hq hbb2 hyx
          go_wp2
          go_quiet_grown (first | (go_at_call 35; refine Calls.grown_of (HV.out _ (GrW.below ((GrW.refl _).grow _ _)))))
          have hne : ¬ c = k := by omega
          obtain ⟨i0, hi0, -, hsz0, -⟩ := info_parts info26
          have hcut := cut_from (P := Tryz.prog) 23 26 .i64 Tryz.underlying23 hi0 2 hsz0 (some ⟨b, 0, none⟩) l.length c k (by omega) (by omega)
          simp only [Int.toNat_natCast, if_neg hne, Option.map_some, add_plain] at hcut
          have HI2 : Aside0 (CmpIv l (k + 1) k l) := ⟨CmpIv.start HI.out (by omega) HX.out (by rw [HY.out, HQ.out])⟩
          have HO2 := Aside0.mk (Kd.R_below HO.out (GrW.below ((GrW.refl wr).grow nq osq)))
          have HG2 := Aside0.mk (grown_trans HG.out (grown_of_below (GrW.below ((GrW.refl wr).grow nq osq)) (some b)))
          clear HO HG HI HX HY HQ HV hx0 hx1 ihx0 ihx1 hw hi0 hsz0
          go_wp2
          obtain ⟨wo, hwo⟩ : ∃ wo : World, wo = grow (wr.drewN nq) osq := ⟨_, rfl⟩
          rw [← hwo] at HO2 HG2 ⊢
          clear hwo
          go_loopg [5, 7] l.length (fun gg s5 s7 wx => ∃ (kk j : Nat) (ys : List Fact), s5 = .int .i64 kk ∧ s7 = .int .i64 j ∧ 1 ≤ j ∧ k + j ≤ l.length ∧ l.length - (k + j) ≤ gg ∧ kk < k + j ∧ ys.length = l.length ∧ Aside0 (CmpIv l (k + j) kk ys) ∧ Aside0 (Kd.R k26 26 wx base ok (.slice (some ⟨b, 0, none⟩) l.length c) ys) ∧ Aside0 (w.grownBy wx (some b)))
          case atStart => exact ⟨k, 1, l, rfl, rfl, by omega, by omega, by omega, by omega, rfl, HI2, HO2, HG2⟩
          case round =>
            clear HI2 HO2 HG2
            obtain ⟨kk, j, ys, rfl, rfl, hj1, hjl, hgg2, hkk, hyl, HI, HO, HG⟩ := hrel
            by_cases hlt2 : k + j < l.length
            · have hltz2 : (j : Int) < ((l.length - k : Nat) : Int) := by omega
              have hj0 : (0 : Int) ≤ (j : Int) := by omega
              have hj3 : (0 : Int) ≤ ((j - 1 : Nat) : Int) := by omega
              have hj4 : ((j - 1 : Nat) : Int) < ((l.length - k : Nat) : Int) := by omega
              obtain ⟨y, hy⟩ := at_some hlt2
              obtain ⟨x, hx⟩ := at_some (l := l) (k := k + (j - 1)) (by omega)
              obtain ⟨z, hz⟩ := at_some (l := ys) (k := kk) (by omega)
              have hyy := (HI.out.high (k + j) (by omega)).trans hy
              have hxx := (HI.out.high (k + (j - 1)) (by omega)).trans hx
              have hyx := eq_bare HBARE.out hy hx
              have HYY := Aside0.mk hyy
              obtain ⟨-, -, hC⟩ := Kd.R_reads' HO.out
              have hyc := at_Fact hC hyy
              have hxc := at_Fact hC hxx
              have hzc := at_Fact hC hz
              have HY := Aside0.mk hy
              have HX : Aside0 (l[k + j - 1]? = some x) := ⟨by rw [show k + j - 1 = k + (j - 1) by omega]; exact hx⟩
              clear hy hx hC hz hyy hxx
              obtain ⟨ad, A1, c1, e1, hx0, hx1, l1, g1⟩ := hyc
              cases e1
              obtain ⟨iad, iA1, ic1, ie1, ihx0, ihx1, il1, ig1⟩ := hxc
              cases ie1
              obtain ⟨qad, qA1, qc1, qe1, qhx0, qhx1, ql1, qg1⟩ := hzc
              cases qe1
              simp only [add_plain, Nat.add_mul] at hx0 hx1 ihx0 ihx1 qhx0 qhx1
              have hw : IntKind.i64.wrap ((j : Int) - 1) = ((j - 1 : Nat) : Int) := by rw [i64_w]; unfold wrap64; omega
              obtain ⟨bb, hbb2⟩ : ∃ bb : Bool, bb = decide (cmpF y x = 0) := ⟨_, rfl⟩
              have HV := Aside0.mk (fun W2 (h : Below wr.heap.size wr W2) => eqFact y x A1 c1 iA1 ic1 bb W2 hbb2 (Kd.C_below g1 h) (Kd.C_below ig1 h))
              have H0 := Aside0.mk hx0
              have H1 := Aside0.mk hx1
              have Q0 := Aside0.mk qhx0
              have Q1 := Aside0.mk qhx1
              replace hx0 := old_grow hx0
              replace hx1 := old_grow hx1
              replace ihx0 := old_grow ihx0
              replace ihx1 := old_grow ihx1
              clear g1 ig1 qhx0 qhx1
              by_cases hq : y = x
              · obtain rfl : bb = true := by rw [hbb2]; exact decide_eq_true (hyx.2 hq)
                have HQ := Aside0.mk hq
                clear hq hbb2 hyx
                go_wp2
                go_quiet_grown (first | (go_at_call 35; refine Calls.grown_of (HV.out _ (GrW.below ((GrW.refl _).grow _ _)))))
                go_wp2
                go_roundg (l.length - (k + j + 1))
                case measure => omega
                case rel => exact ⟨kk, j + 1, ys, rfl, by go_num, by omega, by omega, by omega, by omega, hyl, ⟨HI.out.skip HX.out (by rw [HY.out, HQ.out])⟩, ⟨Kd.R_below HO.out (GrW.below ((GrW.refl _).grow nq osq))⟩, ⟨grown_trans HG.out (grown_of_below (GrW.below ((GrW.refl _).grow nq osq)) (some b))⟩⟩
              · obtain rfl : bb = false := by rw [hbb2]; exact decide_eq_false (fun e => hq (hyx.1 e))
                have HQ := Aside0.mk hq
                clear hq hbb2 hyx
                go_wp2
                go_quiet_grown (first | (go_at_call 35; refine Calls.grown_of (HV.out _ (GrW.below ((GrW.refl _).grow _ _)))))
                have HW := Aside0.mk ((GrW.refl wr).grow nq osq)
                have HO3 := Aside0.mk (Kd.R_below HO.out HW.out.below)
                have HG3 := Aside0.mk (grown_trans HG.out (grown_of_below HW.out.below (some b)))
                obtain ⟨wo, hwo⟩ : ∃ wo : World, wo = grow (wr.drewN nq) osq := ⟨_, rfl⟩
                rw [← hwo] at HO3 HG3 HW ⊢
                clear hwo hx0 hx1 ihx0 ihx1 HV
                have hx0 := Below.old HW.out.below H0.out
                have hx1 := Below.old HW.out.below H1.out
                have qhx0 := Below.old HW.out.below Q0.out
                have qhx1 := Below.old HW.out.below Q1.out
                obtain ⟨cells, hcells⟩ := R_blk HO3.out
                have f0 := blk_frozen hcells (kk * 2)
                have f1 := blk_frozen hcells (kk * 2 + 1)
                have hkl2 : (kk : Int) < (l.length : Int) := by omega
                have HP := Aside0.mk (R_copy HO3.out (by decide) HYY.out (by omega : kk < ys.length) (cs := [.string y.pred, .slice A1 y.args.length c1]) rfl (two_cells (i := (k + j) * 2) (by rw [Nat.add_mul]; exact hx0) (by rw [Nat.add_mul]; exact hx1)))
                clear hcells
                go_wp2
                go_roundg (l.length - (k + j + 1))
                case measure => omega
                case rel => exact ⟨kk + 1, j + 1, ys.set kk y, by go_num, by go_num, by omega, by omega, by omega, by omega, by simpa using hyl, ⟨HI.out.keep HX.out HY.out (fun e => HQ.out e.symm)⟩, ⟨HP.out.1⟩, ⟨grown_trans HG3.out HP.out.2⟩⟩
            · have hltz2 : ¬ (j : Int) < ((l.length - k : Nat) : Int) := by omega
              have hkl2 : kk ≤ l.length := by omega
              obtain ⟨cells, hcells⟩ := R_blk HO.out
              have hsz := R_size HO.out hcells
              have hsz3 : cells.size = c * 2 := hsz.1
              obtain ⟨vs, hclr⟩ := run_clear_row (P := Tryz.prog) wr 23 26 0 (.agg #[.string ⟨#[]⟩, .slice none 0 0]) Tryz.underlying23 (fun w => by kernel_rfl) (by decide) b (kk * 2) (l.length - kk) (c - kk) cells hcells (by rw [hsz3, show (Value.agg #[.string ⟨#[]⟩, .slice none 0 0]).cells.size = 2 from rfl]; omega)
              obtain ⟨cur', h1, h2', h3, h4⟩ := setCells_rowH vs (kk * 2) wr cells hcells
              have HR := Aside0.mk (R_cut HO.out (by omega : kk ≤ ys.length) h4 hcells h1 h2' h3)
              have HG4 := Aside0.mk h4
              have hlow := HI.out.low
              rw [show k + j = l.length by omega, List.take_length] at hlow
              have HL := Aside0.mk hlow
              clear h1 h2' h3 h4 hsz hsz3 hcells hlow
              go_wp2
              go_ret
              exact ⟨_, rfl, by rw [← HL.out]; exact HR.out, grown_trans HG.out HG4.out, rfl⟩
        · obtain rfl : bb = false := by rw [hbb2]; exact decide_eq_false (fun e => hq (hyx.1 e))
          have HQ := Aside0.mk hq
          clear hq hbb2 hyx
          go_wp2
          go_quiet_grown (first | (go_at_call 35; refine Calls.grown_of (HV.out _ (GrW.below ((GrW.refl _).grow _ _)))))
          go_wp2
          go_roundg (l.length - (k + 1))
          case measure => omega
          case rel => exact ⟨k + 1, by go_num, by omega, by omega, by omega, ⟨HI.out.more (by omega) HX.out HY.out (fun e => HQ.out e.symm)⟩, ⟨Kd.R_below HO.out (GrW.below ((GrW.refl _).grow nq osq))⟩, ⟨grown_trans HG.out (grown_of_below (GrW.below ((GrW.refl _).grow nq osq)) (some b))⟩⟩
      · have hltz : ¬ (k : Int) < (l.length : Int) := by omega
        obtain rfl : k = l.length := by omega
        go_wp2
        go_ret
        exact ⟨_, rfl, by have := Apt.dd (Nat.le_refl _) HI.out; rw [List.take_length] at this; rw [this]; exact HO.out, HG.out, rfl⟩
theorem GCompactFact.calls (P0_ : Nat → Prop) (u9000_ : Value) (l0 r : List Fact) (w0 w : World) (hB : Below w0.heap.size w0 w) (ho0 : Kd.R k26 26 w w0.heap.size P0_ u9000_ l0) (h : GCompactFact.f l0 = some r) :
    Calls Tryz.prog 34 #[u9000_, .func (.func 35) #[] #[]] w fun e w' => ∃ v0_ : Value, e = .returned v0_ ∧ Kd.R k26 26 w' w0.heap.size (fun k_ => (P0_ k_ ∨ w.heap.size ≤ k_)) v0_ r ∧ Below w0.heap.size w0 w' ∧ Kept w w' (fun k_ => P0_ k_) := by
  unfold GCompactFact.f at h
  split at h
  case isFalse => cases h
  rename_i hz
  obtain rfl := Option.some.inj h
  refine (CompactFact w0.heap.size P0_ u9000_ l0 w ho0 hz).mono ?_
  rintro e w' ⟨v, rfl, hR, hg, hv⟩
  exact ⟨v, rfl, Kd.R_mono hR (fun k hk => .inl hk), pw_below_grown hB _ hB.size hg (fun k hk => Kd.R_base ho0 k hk), ⟨hg.size, fun i hi hn => hg.block i hi (fun e => hn (ho0.1 i e.symm))⟩⟩
end Go.Proofs.YtoekfmdcplphmaaGreat.H
/- slices.SortFunc at facts, with join.Compare -/
namespace Go.Proofs.YtoekfmdcplphmaaGreat.H
open Go.RowKit Go.Sort Go.Shelf Go.Proofs.YtoekfmdcplphmaaGreatW.PrintWords Go.Proofs.YtoekfmdcplphmaaGreatW.PrintLast Go.Proofs.YtoekfmdcplphmaaGreatW.PrintMore
def GSortFact.f (l : List Fact) : Option (List Fact) := if l.length < 4611686018427387904 ∧ bareL l = true then some (sortF l) else none
theorem joinCmpK (W : World) (x y : Fact) (cx cy : List Value) (hx : k26.K W x cx) (hy : k26.K W y cy) :
    Calls Tryz.prog 25 #[.agg cx.toArray, .agg cy.toArray] W fun e w' => e = .returned (.int .i64 (cmpF x y)) ∧ ∃ q os', w' = grow (W.drewN q) os' := by
  obtain ⟨A0, c0, rfl, l0, g0⟩ := k26_open hx
  obtain ⟨A1, c1, rfl, l1, g1⟩ := k26_open hy
  exact joinCmp x y A0 c0 A1 c1 W g0 g1
theorem GSortFact.calls (P0_ : Nat → Prop) (u9000_ : Value) (l0 r : List Fact) (w0 w : World) (hB : Below w0.heap.size w0 w) (ho0 : Kd.R k26 26 w w0.heap.size P0_ u9000_ l0) (h : GSortFact.f l0 = some r) :
    Calls Tryz.prog 33 #[u9000_, .func (.func 25) #[] #[]] w fun e w' => e = .returned (.tuple #[]) ∧ Kd.R k26 26 w' w0.heap.size (fun k_ => (P0_ k_ ∨ w.heap.size ≤ k_)) u9000_ r ∧ Below w0.heap.size w0 w' ∧ Kept w w' (fun k_ => P0_ k_) := by
  unfold GSortFact.f at h
  split at h
  case isFalse => cases h
  rename_i hz
  obtain rfl := Option.some.inj h
  have hO : ∀ x y : Fact, cmpF y x = - cmpF x y := ordF.anti
  refine (rowSort (d := k26) Tryz.laysSlF06_f33 (fun w => by kernel_rfl) (fun w => by kernel_rfl) (by decide) 26 w0.heap.size P0_ u9000_ l0 w ho0 hz.1 cmpF
    (fun x _ => by have := ordF.self x; omega) (fun x _ y _ z _ h1 h2 => ordF.lt' h1 (by omega)) (fun x _ y _ z _ h1 h2 h3 => by
      have a := hO x y
      have b := hO y z
      have d := ordF.le z y x (by omega) (by omega)
      have e := hO x z
      omega) 25 (fun args w => enters_ Tryz.func25 (by kernel_rfl) rfl args w) (fun W x y cx cy _ _ _ hx hy => joinCmpK W x y cx cy hx hy)).mono ?_
  rintro e w' ⟨rfl, l', hR, hp, hs, hg⟩
  obtain rfl := sortF_eq hz.2 hp hs
  exact ⟨rfl, Kd.R_mono hR (fun k hk => .inl hk), pw_below_grown hB _ hB.size hg (fun k hk => Kd.R_base ho0 k hk), ⟨hg.size, fun i hi hn => hg.block i hi (fun e => hn (ho0.1 i e.symm))⟩⟩
end Go.Proofs.YtoekfmdcplphmaaGreat.H
namespace Go.Proofs.YtoekfmdcplphmaaGreat.H
open Go.RowKit Go.Proofs.YtoekfmdcplphmaaGreatW.PrintWords Go.Proofs.YtoekfmdcplphmaaGreatW.PrintLast Go.Proofs.YtoekfmdcplphmaaGreatW.PrintMore
attribute [local go_sem] max2_int min2_int max_two min_two max_three min_three max_four min_four
def join_Sort.l0 : Nat → List (Fact) → List (Fact) → Int → Int → Option ((List (Fact)))
 | 0, _, _, _, _ => none
 | k + 1, x3, x6, x7, x8 => if x8 < x7 then (if 0 ≤ x8 then (if x8 < (x6.length : Int) then ((tuple_Of.f k ((rd_T26 x6 x8).args)).bind fun t103 => (if x3.length < 3518437208883 then (join_Sort.l0 k (x3 ++ [(⟨(rd_T26 x6 x8).pred, t103⟩ : Fact)]) x6 x7 (wrap64 (x8 + 1))) else (none))) else (none)) else (none)) else ((GSortFact.f x3).bind fun t109 => ((GCompactFact.f t109).bind fun t110 => (some t110)))
def join_Sort.f (k : Nat) (l0 : List (Fact)) : Option ((List (Fact))) := join_Sort.l0 k ([] : List (Fact)) l0 (l0.length : Int) 0
theorem join_Sort.mono_l : ∀ k, (∀ y0 y1 y2 y3, LeO (join_Sort.l0 k y0 y1 y2 y3) (join_Sort.l0 (k + 1) y0 y1 y2 y3))
 | 0 => fun _ _ _ _ r h => by simp [join_Sort.l0] at h
 | k + 1 => by
  have ih0 := join_Sort.mono_l k
  intro y0 y1 y2 y3
  unfold join_Sort.l0
  repeat' first
  | (with_reducible exact ih0 _ _ _ _)
  | (with_reducible exact tuple_Of.mono _ _)
  | (with_reducible exact LeO.refl _)
  | (with_reducible exact LeO.none _)
  | (with_reducible refine LeO.ite ?_ ?_)
  | (with_reducible refine LeO.bind ?_ (fun _ => ?_))
  | exact ih0 _ _ _ _
  | exact tuple_Of.mono _ _
  | exact LeO.none _
  | refine LeO.ite ?_ ?_
  | refine LeO.bind ?_ (fun _ => ?_)
theorem join_Sort.mono : ∀ a0 k, LeO (join_Sort.f k a0) (join_Sort.f (k + 1) a0) := by
 intro a0 k
 have ih0 := join_Sort.mono_l k
 unfold join_Sort.f
 repeat' first
   | (with_reducible exact ih0 _ _ _ _)
   | (with_reducible exact tuple_Of.mono _ _)
   | (with_reducible exact LeO.refl _)
   | (with_reducible exact LeO.none _)
   | (with_reducible refine LeO.ite ?_ ?_)
   | (with_reducible refine LeO.bind ?_ (fun _ => ?_))
   | exact ih0 _ _ _ _
   | exact tuple_Of.mono _ _
   | exact LeO.none _
   | refine LeO.ite ?_ ?_
   | refine LeO.bind ?_ (fun _ => ?_)
def join_Sort.T5 : Bool × List (List Nat × List Nat) := (true, [([], []), ([], []), ([1], [1]), ([], []), ([3], [3]), ([4], [4]), ([2, 5], [2, 5]), ([6], [6]), ([0, 7, 5], [0, 7]), ([8, 8, 0, 1, 2, 3, 4, 5, 6, 7, 8], [0, 8])])
def join_Sort.B5 : List Nat := [0, 0, 2, 0, 8, 24, 62, 126, 255, 511]
theorem join_Sort.tab5 : rtab .any (opsOf Tryz.f14 5) = join_Sort.T5 := by kernel_rfl
theorem join_Sort.bits5 : waitsOk join_Sort.T5.2 join_Sort.B5 = true := by kernel_rfl
set_option maxHeartbeats 8000000 in
set_option maxRecDepth 100000 in
theorem join_Sort.calls (k : Nat) (A0 : Option Addr) (c0 : Nat) (l0 : List (Fact)) (r : List (Fact)) (w : World) (hr0 : Kd.C k26 w A0 l0.length l0) (hc0 : l0.length ≤ c0) (h : join_Sort.f k l0 = some r) :
  Calls Tryz.prog 14 #[.slice A0 l0.length c0] w fun e w' => ∃ v0_ : Value, e = .returned (v0_) ∧ Kd.R k26 26 w' w.heap.size (fun _ => True) v0_ r ∧ Below w.heap.size w w' := by
 have hu26 := Tryz.underlying26
 have HR0 := am hr0
 have HC0 := am hc0
 clear hr0 hc0
 have HB := am (Below.refl w.heap.size w)
 have H : (join_Sort.l0 k ([] : List (Fact)) l0 (l0.length : Int) 0) = some r := h
 clear h
 have H' := am H
 clear H
 go_enter Tryz.func14, Tryz.ntmps14
 go_wp2
 go_loopg [3, 8] k (fun kq v3 v8 w' => ∃ (x3_1 : List (Fact)) (x8_1 : Int), v8 = .int .i64 x8_1 ∧ Aside0 (join_Sort.l0 kq x3_1 l0 (l0.length : Int) x8_1 = some r) ∧ Aside0 (kq ≤ k) ∧ Aside0 (Kd.R k26 26 w' w.heap.size (fun _ => True) v3 x3_1) ∧ Aside0 (Below w.heap.size w w'))
 case atStart => exact ⟨(([] : List (Fact))), (0), rs_, H', ⟨Nat.le_refl _⟩, ⟨by first | exact Kd.R_nil _ _ _ _ _ | exact Kd.N_nil _ _ _ _ _ | exact Kd.V_nil _ _ _ _ _ | exact Kd.Q_nil _ _ _ _ _ | exact Kd.S_nil _ _ _ _ _⟩, ⟨pL HB.out⟩⟩
 case round =>
  clear H'
  try clear c1
  obtain ⟨x3_1, x8_1, rfl, HA, HK1, HO_3, HB⟩ := hrel
  cases gk with
  | zero => exact absurd HA.out (by simp [join_Sort.l0])
  | succ k1 =>
   have H := HA.out
   clear HA
   simp only [join_Sort.l0] at H
   by_cases c2 : x8_1 < (l0.length : Int)
   rotate_left
   ·rw [if_neg c2] at H
    have c2b0 : decide (x8_1 < (l0.length : Int)) = false := decide_eq_false c2
    clear c2
    replace H := Option.bind_eq_some_iff.mp H
    obtain ⟨t109, A140, H⟩ := H
    replace H : ((GCompactFact.f t109).bind fun t110 => (some t110)) = some r := H
    have A14 := am A140
    clear A140
    replace H := Option.bind_eq_some_iff.mp H
    obtain ⟨t110, A150, H⟩ := H
    replace H : (some t110) = some r := H
    have A15 := am A150
    clear A150
    obtain rfl := Option.some.inj H
    obtain ⟨Ao16, co16, eo16⟩ := Kd.R_slice HO_3.out
    subst eo16
    go_wp2_with (first | ((with_reducible refine gate_callee (f := 33) rfl ?_); refine goesL_ (some 23) rfl rfl Tryz.func33 (by kernel_rfl) rfl #[.slice Ao16 x3_1.length co16, .func (.func 25) #[] #[]] rfl gl_ ?_; (refine (GSortFact.calls (fun _ => True) (.slice Ao16 x3_1.length co16) x3_1 t109 w _ ?side1 ?side2 A14.out).mono ?_); (case side1 => repeat (first | (with_reducible first | exact HB.out | apply lA | apply lN | apply lD) | exact HB.out)); (case side2 => exact Kd.R_mono HO_3.out (fun _ _ => trivial)); rintro e w17 ⟨rfl, hy0, hb, hkp⟩; refine ⟨_, rfl, ?_⟩; replace HO_3 := am (Kd.R_mono (ok' := fun _ => True) hy0 (fun _ _ => trivial)); replace HB := am (hb); (try clear hb); (try clear hkp); (try clear hy0)) | ((with_reducible refine gate_callee (f := 34) rfl ?_); refine goesL_ (some 25) rfl rfl Tryz.func34 (by kernel_rfl) rfl #[.slice Ao16 x3_1.length co16, .func (.func 35) #[] #[]] rfl gl_ ?_; (refine (GCompactFact.calls (fun _ => True) (.slice Ao16 x3_1.length co16) t109 t110 w _ ?side1 ?side2 A15.out).mono ?_); (case side1 => repeat (first | (with_reducible first | exact HB.out | apply lA | apply lN | apply lD) | exact HB.out)); (case side2 => exact Kd.R_mono HO_3.out (fun _ _ => trivial)); rintro e w18 ⟨v111, rfl, ho0, hb, hkp⟩; refine ⟨_, rfl, ?_⟩; have HO112 := am (Kd.R_mono (ok' := fun k_ => True) ho0 (fun k_ hk_ => trivial)); replace HB := am (hb); clear HO_3; (try clear hb); (try clear hkp); (try clear ho0)))
    go_ret
    exact ⟨_, er_, by (with_reducible repeat (first | apply Ra | apply Rn | apply Rd)); exact HO112.out, pL HB.out⟩
   rw [if_pos c2] at H
   have c2b0 : decide (x8_1 < (l0.length : Int)) = true := decide_eq_true c2
   clear c2
   by_cases c3 : 0 ≤ x8_1
   rotate_left
   ·rw [if_neg c3] at H
    exact absurd H (by simp)
   rw [if_pos c3] at H
   have c3b0 : decide (0 ≤ x8_1) = true := decide_eq_true c3
   clear c3
   by_cases c4 : x8_1 < (l0.length : Int)
   rotate_left
   ·rw [if_neg c4] at H
    exact absurd H (by simp)
   rw [if_pos c4] at H
   have c4b0 : decide (x8_1 < (l0.length : Int)) = true := decide_eq_true c4
   clear c4
   replace H := Option.bind_eq_some_iff.mp H
   obtain ⟨t103, A50, H⟩ := H
   replace H : (if x3_1.length < 3518437208883 then (join_Sort.l0 k1 (x3_1 ++ [(⟨(rd_T26 l0 x8_1).pred, t103⟩ : Fact)]) l0 (l0.length : Int) (wrap64 (x8_1 + 1))) else (none)) = some r := H
   have A5 := am A50
   clear A50
   by_cases c6 : x3_1.length < 3518437208883
   rotate_left
   ·rw [if_neg c6] at H
    exact absurd H (by simp)
   rw [if_pos c6] at H
   have LMc6 := am c6
   clear c6
   obtain ⟨y106, hy106⟩ : ∃ y_ : List (Fact), y_ = (x3_1 ++ [(⟨(rd_T26 l0 x8_1).pred, t103⟩ : Fact)]) := ⟨_, rfl⟩
   replace H : (join_Sort.l0 k1 y106 l0 (l0.length : Int) (wrap64 (x8_1 + 1))) = some r := by first | (rw [hy106]; with_reducible exact H) | (have H2_ := (Option.bind_some _ _).symm.trans H; rw [hy106]; with_reducible exact H2_) | (have H2_ := (Option.bind_some _ _).symm.trans H; with_reducible exact H2_) | with_reducible exact H | (rw [hy106]; exact H) | exact H
   have Ny106 := am hy106
   clear hy106
   have H' := am H
   clear H
   have p101 : 0 ≤ (x8_1 : Int) := dt_
   have q101 : x8_1 < (l0.length : Int) := dt_
   obtain ⟨ad101, A101_1, c101_1, e101, hx101_0, hx101_1, hl101_1, hi101_1⟩ := at_T26 HR0.out x8_1 p101 q101
   cases e101
   replace hx101_0 := up_ HB.out hx101_0
   replace hx101_1 := up_ HB.out hx101_1
   have HR101_1 := am hi101_1
   have HC101_1 := am hl101_1
   clear hi101_1 hl101_1
   replace p101 := eq_true p101
   replace q101 := eq_true q101
   try go_wp2_with (first | ((with_reducible refine gate_dst (N := 5) rfl ?_); refine box_event ?hg (N := 5) ?hd (cs := #[.string (⟨#[]⟩ : ByteArray), .slice none 0 0]) (t := 26) ?hr ?_; (case hd => rfl); (case hg => rfl); (case hr => first | (go_simp; done) | (go_simp; rfl)); intro gb102 hg w7 hbox hb; replace HO_3 := am (Kd.R_below (Kd.R_elderB (pR HO_3.out) gb102 (Nat.le_of_eq hg.symm)) hb); have BK102 := am (hbox); have GW102 := am (gw_ hg HB.out); have GE102 := GW102; replace HB := am (bs_ HB.out hb); clear hb hbox hg; obtain ⟨hcz8_0, hcz8_1, hfz8_0, hfz8_1⟩ := bc2 BK102.out))
   have n0_ : Aside0 (Kd.R k26 26 ((w7.setCell ⟨gb102, 0, none⟩ (.string ((rd_T26 l0 x8_1).pred))).setCell ⟨gb102, 1, none⟩ (.slice A101_1 ((rd_T26 l0 x8_1).args).length c101_1)) w.heap.size (fun k_ => k_ ≠ gb102) u3 x3_1) := ⟨by (with_reducible repeat (first | apply Ra | apply Rn | apply Rd)); exact Kd.R_mono (Kd.R_far (p := ⟨gb102, 1, none⟩) (Kd.R_far (p := ⟨gb102, 0, none⟩) (Kd.R_mono HO_3.out (fun k_ hk => (⟨hk, hk.2⟩ : _ ∧ k_ ≠ gb102))) (fun _ hk => hk.2) _) (fun _ hk => hk.2) _) (fun _ hk => hk.1.2)⟩
   have n1_ : Aside0 (((w7.setCell ⟨gb102, 0, none⟩ (.string ((rd_T26 l0 x8_1).pred))).setCell ⟨gb102, 1, none⟩ (.slice A101_1 ((rd_T26 l0 x8_1).args).length c101_1)).heap[gb102]? = some (.cells #[.string ((rd_T26 l0 x8_1).pred), .slice A101_1 ((rd_T26 l0 x8_1).args).length c101_1] 26 (0, 0))) := ⟨by (with_reducible repeat (first | refine bN ?_ _ | refine bD ?_ | refine bA ?_ _)); exact bq2 BK102.out⟩
   have n2_ : Aside0 (Below w.heap.size w ((w7.setCell ⟨gb102, 0, none⟩ (.string ((rd_T26 l0 x8_1).pred))).setCell ⟨gb102, 1, none⟩ (.slice A101_1 ((rd_T26 l0 x8_1).args).length c101_1))) := ⟨pL HB.out⟩
   (try clear HO_3)
   (try clear BK102)
   (try clear HB)
   generalize ((w7.setCell ⟨gb102, 0, none⟩ (.string ((rd_T26 l0 x8_1).pred))).setCell ⟨gb102, 1, none⟩ (.slice A101_1 ((rd_T26 l0 x8_1).args).length c101_1)) = w9 at n0_ n1_ n2_ ⊢
   have HO_3 := n0_
   have BK102 := n1_
   have HB := n2_
   clear n0_ n1_ n2_
   replace HO_3 := am (Kd.R_drew HO_3.out)
   replace BK102 := am (blk_drew BK102.out)
   replace HB := am (below_drew1 HB.out)
   refine start_ (n := 10) (S := fun w' => w'.cell? ⟨gb102, 0, none⟩ = some (.string ((rd_T26 l0 x8_1).pred)) ∧ w'.cell? ⟨gb102, 1, none⟩ = some (.slice A101_1 ((rd_T26 l0 x8_1).args).length c101_1)) (ds := []) (bl 10 0) (by kernel_rfl) rfl rfl ⟨(blk_cell BK102.out 0).trans rfl, (blk_cell BK102.out 1).trans rfl⟩ (fun hHeld => ?_); refine with_tabW join_Sort.tab5 join_Sort.bits5 (fun HT_ HW_ => ?_)
   generalize w9.drew = w10 at HO_3 BK102 HB hHeld ⊢
   refine pu_ (i := 0) (N := some 12) (bl 10 1) rfl rfl (any_of HT_.out (by kernel_rfl)) ?_
   refine pu_ (i := 1) (N := some 13) (bl 10 3) rfl rfl (any_of HT_.out (by kernel_rfl)) ?_
   refine pu_ (i := 3) (N := some 15) (bl 10 11) rfl rfl (any_of HT_.out (by kernel_rfl)) ?_
   refine take_ (i := 2) (N := some 14) (v := ?_) (a' := ?_) (bl 10 15) rfl rfl (take_ofW HT_.out HW_.out (by kernel_rfl)) (fun _ _ _ h => h) (Or.inl ⟨by rfl, ?_⟩) hHeld ?_ ?_
   rotate_left
   ·rintro w' ⟨s0, s1⟩
    go_simp
    with_reducible rfl
   rotate_left
   ·simp only [Act.put, sA, sZ, sS, i64_w, i32_w]
    rfl
   refine take_ (i := 4) (N := some 16) (v := ?_) (a' := ?_) (bl 10 31) rfl rfl (take_ofW HT_.out HW_.out (by kernel_rfl)) (fun _ _ _ h => h) (Or.inl ⟨by rfl, ?_⟩) hHeld ?_ ?_
   rotate_left
   ·rintro w' ⟨s0, s1⟩
    go_simp
    with_reducible rfl
   rotate_left
   ·simp only [Act.put, sA, sZ, sS, i64_w, i32_w]
    rfl
   refine one_ (i := 5) (N := some 17) (bl 10 63) rfl rfl (one_of HT_.out (by kernel_rfl)) (by decide) (fun K hK => ?_)
   refine goes_ Tryz.func32 (by kernel_rfl) rfl #[.slice A101_1 ((rd_T26 l0 x8_1).args).length c101_1] (by rfl) rfl rfl gl_ ?_
   with_reducible refine (tuple_Of.calls k1 _ _ ((rd_T26 l0 x8_1).args) t103 _ ?side1 ?side2 A5.out).mono ?_
   (case side1 => repeat (first | exact (Kd.C_below HR101_1.out HB.out) | (with_reducible refine Kd.C_alloc ?_ _) | (with_reducible refine Kd.C_drewN ?_ _) | (with_reducible refine Kd.C_drew ?_)))
   (case side2 => exact HC101_1.out)
   rintro e w11 ⟨v104, rfl, ho0, hb⟩
   refine ⟨_, rfl, ?_⟩
   replace HO_3 := am (Kd.R_elder' (pR HO_3.out) (Kd.R_base ho0) hb)
   have HO105 := am (Kd.R_lower ho0 (below_size (pL HB.out)))
   replace BK102 := am (bb_ BK102.out hb)
   replace HB := am (bs_ HB.out hb)
   (try clear hb)
   (try clear hb2)
   (try clear hk)
   (try clear hi)
   (try clear ho0)
   obtain ⟨Ao12, co12, eo12⟩ := Kd.R_slice HO105.out
   (first | subst eo12 | (injection eo12 with f1_ f2_ f3_; have f4_ := f1_.symm; have f5_ := f3_.symm; clear f1_ f2_ f3_; subst f4_; subst f5_))
   refine hK.out _ _ ⟨(blk_cell BK102.out 0).trans rfl, (blk_cell BK102.out 1).trans rfl⟩ (fun hHeld => ?_)
   clear hK K
   refine norm_ (a' := ?_) ?_ ?_
   rotate_left
   ·show Act.put _ (some 17) _ = _
    simp only [Act.put, sA, sZ, sS, i64_w, i32_w]
    rfl
   refine pu_ (i := 6) (N := some 18) (bl 10 127) rfl rfl (any_of HT_.out (by kernel_rfl)) ?_
   refine one_ (i := 7) (N := some 19) (bl 10 255) rfl rfl (one_of HT_.out (by kernel_rfl)) (by decide) (fun K hK => ?_)
   refine value_ (w1 := ?_) (v := ?_) (by rfl) rfl ?_ ?_
   rotate_left 2
   ·go_simp
    constructor
    ·rfl
    rfl
   refine hK.out _ _ ⟨(blk_cell (blk_alloc BK102.out _) 0).trans rfl, (blk_cell (blk_alloc BK102.out _) 1).trans rfl⟩ (fun hHeld => ?_)
   clear hK K
   refine norm_ (a' := ?_) ?_ ?_
   rotate_left
   ·show Act.put _ (some 19) _ = _
    simp only [Act.put, sA, sZ, sS, i64_w, i32_w]
    rfl
   refine one_ (i := 8) (N := some 20) (bl 10 511) rfl rfl (one_of HT_.out (by kernel_rfl)) (by decide) (fun K hK => ?_)
   refine Kd.R_append_step k26 (w0 := w) w.heap.size (by rfl) (.tmp 12) (.tmp 19) 23 26 (.agg #[(.string ⟨#[]⟩), (.slice none 0 0)]) 40 rfl Tryz.underlying23 info26 rfl (by decide) (by omega) u3 x3_1 (⟨(rd_T26 l0 x8_1).pred, t103⟩ : Fact) [.string ((rd_T26 l0 x8_1).pred), .slice Ao12 t103.length co12] (fun k_ => k_ ≠ gb102) (fun k_ => ((fun k_ => k_ ≠ gb102)) k_ ∧ some k_ ≠ (u3 : Value).ownBlock) rfl rfl ?aP (fun _ hk => hk) ?aF ?aO ?aB ?aS ?aL ?_
   (case aP => exact k26_mkM _ _ _ (⟨(rd_T26 l0 x8_1).pred, t103⟩ : Fact) (Kd.R_mono (Kd.R_types (Kd.R_apart' (HO105.out) (Kd.R_typed HO_3.out) (by decide)) BK102.out (by decide)) (fun k_ hk => ⟨hk.2, hk.1.2⟩)))
   (case aB => exact (pL HB.out))
   (case aF => exact (fun k_ hk => Kd.freshB (g := gb102) (pB BK102.out) k_ hk))
   (case aO => exact (by (with_reducible repeat (first | apply Ra | apply Rn | apply Rd)); exact Kd.R_mono HO_3.out (fun _ hk => hk.1)))
   (case aS => exact (below_size (pL HB.out)))
   (case aL => have := LMc6.out; omega)
   intro v107 w13 ho hb hg hat
   rw [← Ny106.out] at ho
   replace BK102 := am (blk_grown (pB BK102.out) hg (Kd.R_away HO_3.out (fun _ hk => hk.1)))
   replace HB := am (hb)
   have HO108 := am (ho)
   clear HO_3 HO105
   clear ho hb hg hat
   refine hK.out _ _ ⟨(blk_cell BK102.out 0).trans rfl, (blk_cell BK102.out 1).trans rfl⟩ (fun hHeld => ?_)
   clear hK K
   refine norm_ (a' := ?_) ?_ ?_
   rotate_left
   ·show Act.put _ (some 20) _ = _
    simp only [Act.put, sA, sZ, sS, i64_w, i32_w]
    rfl
   refine pu_ (i := 9) (N := some 3) (bl 10 1023) rfl rfl (any_of HT_.out (by kernel_rfl)) ?_
   refine done_ (done_of HT_.out (by kernel_rfl)) ?_
   try go_wp2
   go_roundg k1
   case measure => have := HK1.out; omega
   case rel => exact ⟨(y106), (wrap64 (x8_1 + 1)), rs_, H', ⟨by have := HK1.out; omega⟩, ⟨by (with_reducible repeat (first | apply Ra | apply Rn | apply Rd)); exact Kd.R_mono HO108.out (fun _ hk => trivial)⟩, ⟨pL HB.out⟩⟩
def facts_Of.l0 : Nat → List (Stmt) → List (Fact) → Int → Int → Option ((List (Fact)))
 | 0, _, _, _, _ => none
 | k + 1, x0, x3, x6, x7 => if x7 < x6 then ((facts_one.f k x0 x7).bind fun t101 => (if x3.length + t101.length < 3518437208883 then (facts_Of.l0 k x0 (x3 ++ t101) x6 (wrap64 (x7 + 1))) else (none))) else ((join_Sort.f k x3).bind fun t107 => (some t107))
def facts_Of.f (k : Nat) (l0 : List (Stmt)) : Option ((List (Fact))) := facts_Of.l0 k l0 ([] : List (Fact)) (l0.length : Int) 0
theorem facts_Of.mono_l : ∀ k, (∀ y0 y1 y2 y3, LeO (facts_Of.l0 k y0 y1 y2 y3) (facts_Of.l0 (k + 1) y0 y1 y2 y3))
 | 0 => fun _ _ _ _ r h => by simp [facts_Of.l0] at h
 | k + 1 => by
  have ih0 := facts_Of.mono_l k
  intro y0 y1 y2 y3
  unfold facts_Of.l0
  repeat' first
  | (with_reducible exact ih0 _ _ _ _)
  | (with_reducible exact facts_one.mono _ _ _)
  | (with_reducible exact join_Sort.mono _ _)
  | (with_reducible exact LeO.refl _)
  | (with_reducible exact LeO.none _)
  | (with_reducible refine LeO.ite ?_ ?_)
  | (with_reducible refine LeO.bind ?_ (fun _ => ?_))
  | exact ih0 _ _ _ _
  | exact facts_one.mono _ _ _
  | exact join_Sort.mono _ _
  | exact LeO.none _
  | refine LeO.ite ?_ ?_
  | refine LeO.bind ?_ (fun _ => ?_)
theorem facts_Of.mono : ∀ a0 k, LeO (facts_Of.f k a0) (facts_Of.f (k + 1) a0) := by
 intro a0 k
 have ih0 := facts_Of.mono_l k
 unfold facts_Of.f
 repeat' first
   | (with_reducible exact ih0 _ _ _ _)
   | (with_reducible exact facts_one.mono _ _ _)
   | (with_reducible exact join_Sort.mono _ _)
   | (with_reducible exact LeO.refl _)
   | (with_reducible exact LeO.none _)
   | (with_reducible refine LeO.ite ?_ ?_)
   | (with_reducible refine LeO.bind ?_ (fun _ => ?_))
   | exact ih0 _ _ _ _
   | exact facts_one.mono _ _ _
   | exact join_Sort.mono _ _
   | exact LeO.none _
   | refine LeO.ite ?_ ?_
   | refine LeO.bind ?_ (fun _ => ?_)
set_option maxHeartbeats 8000000 in
set_option maxRecDepth 100000 in
theorem facts_Of.calls (k : Nat) (A0 : Option Addr) (c0 : Nat) (l0 : List (Stmt)) (r : List (Fact)) (w : World) (hr0 : Kd.C k34 w A0 l0.length l0) (hc0 : l0.length ≤ c0) (h : facts_Of.f k l0 = some r) :
  Calls Tryz.prog 6 #[.slice A0 l0.length c0] w fun e w' => ∃ v0_ : Value, e = .returned (v0_) ∧ Kd.N k26 26 w' w.heap.size (fun k_ => (w.heap.size ≤ k_)) v0_ r ∧ Below w.heap.size w w' := by
 have HR0 := am hr0
 have HC0 := am hc0
 clear hr0 hc0
 have HB := am (Below.refl w.heap.size w)
 have H : (facts_Of.l0 k l0 ([] : List (Fact)) (l0.length : Int) 0) = some r := h
 clear h
 have H' := am H
 clear H
 go_enter Tryz.func6, Tryz.ntmps6
 go_wp2
 go_loopg [3, 7] k (fun kq v3 v7 w' => ∃ (x3_1 : List (Fact)) (x7_1 : Int), v7 = .int .i64 x7_1 ∧ Aside0 (facts_Of.l0 kq l0 x3_1 (l0.length : Int) x7_1 = some r) ∧ Aside0 (kq ≤ k) ∧ Aside0 (Kd.N k26 26 w' w.heap.size (fun k_ => (w.heap.size ≤ k_)) v3 x3_1) ∧ Aside0 (Below w.heap.size w w'))
 case atStart => exact ⟨(([] : List (Fact))), (0), rs_, H', ⟨Nat.le_refl _⟩, ⟨by first | exact Kd.R_nil _ _ _ _ _ | exact Kd.N_nil _ _ _ _ _ | exact Kd.V_nil _ _ _ _ _ | exact Kd.Q_nil _ _ _ _ _ | exact Kd.S_nil _ _ _ _ _⟩, ⟨pL HB.out⟩⟩
 case round =>
  clear H'
  obtain ⟨x3_1, x7_1, rfl, HA, HK1, HO_3, HB⟩ := hrel
  cases gk with
  | zero => exact absurd HA.out (by simp [facts_Of.l0])
  | succ k1 =>
   have H := HA.out
   clear HA
   simp only [facts_Of.l0] at H
   by_cases c2 : x7_1 < (l0.length : Int)
   ·rw [if_pos c2] at H
    have c2b0 : decide (x7_1 < (l0.length : Int)) = true := decide_eq_true c2
    clear c2
    replace H := Option.bind_eq_some_iff.mp H
    obtain ⟨t101, A30, H⟩ := H
    replace H : (if x3_1.length + t101.length < 3518437208883 then (facts_Of.l0 k1 l0 (x3_1 ++ t101) (l0.length : Int) (wrap64 (x7_1 + 1))) else (none)) = some r := H
    have A3 := am A30
    clear A30
    by_cases c4 : x3_1.length + t101.length < 3518437208883
    ·rw [if_pos c4] at H
     have LMc4 := am c4
     clear c4
     obtain ⟨y104, hy104⟩ : ∃ y_ : List (Fact), y_ = (x3_1 ++ t101) := ⟨_, rfl⟩
     replace H : (facts_Of.l0 k1 l0 y104 (l0.length : Int) (wrap64 (x7_1 + 1))) = some r := by first | (rw [hy104]; with_reducible exact H) | (have H2_ := (Option.bind_some _ _).symm.trans H; rw [hy104]; with_reducible exact H2_) | (have H2_ := (Option.bind_some _ _).symm.trans H; with_reducible exact H2_) | with_reducible exact H | (rw [hy104]; exact H) | exact H
     have Ny104 := am hy104
     clear hy104
     have H' := am H
     clear H
     go_wp2_with (first | ((with_reducible refine gate_callee (f := 13) rfl ?_); refine goesL_ (some 13) rfl rfl Tryz.func13 (by kernel_rfl) rfl #[.slice A0 l0.length c0, .int .i64 x7_1] rfl gl_ ?_; (with_reducible refine (facts_one.calls k1 _ _ l0 x7_1 t101 _ ?side1 ?side2 A3.out).mono ?_); (case side1 => repeat (first | exact (Kd.C_below HR0.out HB.out) | (with_reducible refine Kd.C_alloc ?_ _) | (with_reducible refine Kd.C_drewN ?_ _) | (with_reducible refine Kd.C_drew ?_))); (case side2 => exact HC0.out); rintro e w5 ⟨v102, rfl, ho0, hb⟩; refine ⟨_, rfl, ?_⟩; have HO103 := am (Kd.N_lower (Kd.N_mono (ok' := fun k_ => (w.heap.size ≤ k_) ∧ some k_ ≠ (u3 : Value).ownBlock) ho0 (fun k_ hk_ => ⟨(Nat.le_trans (below_size (pL HB.out)) hk_), (Kd.fresh' (Kd.N_lt (by (with_reducible repeat (first | apply Kd.N_alloc | apply Kd.N_drewN | apply Kd.N_drew)); exact HO_3.out)) k_ hk_)⟩)) (below_size (pL HB.out))); replace HO_3 := am (Kd.N_elder' (by (with_reducible repeat (first | apply Kd.N_alloc | apply Kd.N_drewN | apply Kd.N_drew)); exact HO_3.out) (by first | exact Kd.N_base ho0 | exact Kd.R_base ho0) hb); replace HB := am (bs_ HB.out hb); (try clear hb); (try clear hb2); (try clear hk); (try clear hi); (try clear ho0); obtain ⟨Ao7, co7, eo7⟩ := Kd.N_slice HO103.out; subst eo7) | ((with_reducible refine gate_builtin (b := .append) (xs := #[.tmp 10, .tmp 13]) rfl ?_); at_builtin; refine Kd.N_append_rows k26 (w0 := w) w.heap.size rfl (.tmp 10) (.tmp 13) 23 26 (.agg #[(.string ⟨#[]⟩), (.slice none 0 0)]) 40 rfl Tryz.underlying23 info26 rfl (by decide) (by omega) u3 x3_1 t101 _ _ _ (fun k_ => (w.heap.size ≤ k_)) (fun k_ => ((fun k_ => (w.heap.size ≤ k_))) k_ ∧ some k_ ≠ (u3 : Value).ownBlock) rfl rfl ?aO ?aR (fun _ hk => hk) ?aF ?aB ?aS ?aL ?_; (case aR => exact (by skip; exact Kd.N_F (Kd.N_mono (ok' := (fun k_ => ((fun k_ => (w.heap.size ≤ k_))) k_ ∧ some k_ ≠ (u3 : Value).ownBlock)) (HO103.out) (fun k_ hk => ⟨hk.1, hk.2⟩)))); (case aB => exact (pL HB.out)); (case aF => exact (fun k_ hk => (Nat.le_trans (below_size (pL HB.out)) hk))); (case aO => exact (by (with_reducible repeat (first | apply Kd.N_alloc | apply Kd.N_drewN | apply Kd.N_drew)); exact Kd.N_mono HO_3.out (fun _ hk => hk.1))); (case aS => exact (below_size (pL HB.out))); (case aL => have := LMc4.out; omega); intro v105 w6 ho hb hg hat; rw [← Ny104.out] at ho; replace HO103 := am (Kd.N_afterv (ok := (fun k_ => (w.heap.size ≤ k_))) (by (with_reducible repeat (first | apply Kd.N_alloc | apply Kd.N_drewN | apply Kd.N_drew)); exact HO103.out) hg hat); replace HB := am (hb); have HO106 := am (ho); clear HO_3; clear ho hb hg hat))
     go_roundg k1
     case measure => have := HK1.out; omega
     case rel => exact ⟨(y104), (wrap64 (x7_1 + 1)), rs_, H', ⟨by have := HK1.out; omega⟩, ⟨by (with_reducible repeat (first | apply Kd.N_alloc | apply Kd.N_drewN | apply Kd.N_drew)); exact HO106.out⟩, ⟨pL HB.out⟩⟩
    rw [if_neg c4] at H
    exact absurd H (by simp)
   rw [if_neg c2] at H
   have c2b0 : decide (x7_1 < (l0.length : Int)) = false := decide_eq_false c2
   clear c2
   replace H := Option.bind_eq_some_iff.mp H
   obtain ⟨t107, A80, H⟩ := H
   replace H : (some t107) = some r := H
   have A8 := am A80
   clear A80
   obtain rfl := Option.some.inj H
   obtain ⟨Ao9, co9, eo9⟩ := Kd.N_slice HO_3.out
   subst eo9
   go_wp2_with (first | ((with_reducible refine gate_callee (f := 14) rfl ?_); refine goesL_ (some 17) rfl rfl Tryz.func14 (by kernel_rfl) rfl #[.slice Ao9 x3_1.length co9] rfl gl_ ?_; (with_reducible refine (join_Sort.calls k1 _ _ x3_1 t107 _ ?side1 ?side2 A8.out).mono ?_); (case side1 => repeat (first | exact (Kd.N_reads' HO_3.out).2.2 | (with_reducible refine Kd.C_alloc ?_ _) | (with_reducible refine Kd.C_drewN ?_ _) | (with_reducible refine Kd.C_drew ?_))); (case side2 => exact (Kd.N_reads' HO_3.out).2.1); rintro e w10 ⟨v108, rfl, ho0, hb⟩; refine ⟨_, rfl, ?_⟩; have HO109 := am (Kd.N_lower (Kd.N_mono (ok' := fun k_ => (w.heap.size ≤ k_) ∧ some k_ ≠ (.slice Ao9 x3_1.length co9 : Value).ownBlock) (Kd.R_N (Kd.R_bound ho0)) (fun k_ hk_ => ⟨(Nat.le_trans (below_size (pL HB.out)) hk_.2.1), (Kd.fresh' (Kd.N_lt (by (with_reducible repeat (first | apply Kd.N_alloc | apply Kd.N_drewN | apply Kd.N_drew)); exact HO_3.out)) k_ hk_.2.1)⟩)) (below_size (pL HB.out))); replace HO_3 := am (Kd.N_elder' (by (with_reducible repeat (first | apply Kd.N_alloc | apply Kd.N_drewN | apply Kd.N_drew)); exact HO_3.out) (by first | exact Kd.N_base ho0 | exact Kd.R_base ho0) hb); replace HB := am (bs_ HB.out hb); (try clear hb); (try clear hb2); (try clear hk); (try clear hi); (try clear ho0)))
   go_ret
   exact ⟨_, er_, by (with_reducible repeat (first | apply Kd.N_alloc | apply Kd.N_drewN | apply Kd.N_drew)); exact Kd.N_mono HO109.out (fun _ hk => hk.1), pL HB.out⟩
end Go.Proofs.YtoekfmdcplphmaaGreat.H
/- facts.Has: slices.ContainsFunc at facts with its closure -/
namespace Go.Proofs.YtoekfmdcplphmaaGreat.H
open Go.RowKit Go.Proofs.YtoekfmdcplphmaaGreatW.PrintWords Go.Proofs.YtoekfmdcplphmaaGreatW.PrintLast Go.Proofs.YtoekfmdcplphmaaGreatW.PrintMore
set_option maxHeartbeats 4000000 in
/-- slices.IndexFunc at lambrequin/api.Fact, a struct -/
theorem IndexFuncFact (g : Nat) (lb : Array Value) (eg : ∀ args w, (callFunc g args).run Tryz.prog w = .ok (.enter g args) w) (p : Fact → Bool)
    (A0 : Option Addr) (c0 : Nat) (l0 : List Fact) (w : World) (hr0 : Kd.C k26 w A0 l0.length l0) (hp : PredA Tryz.prog g lb k26 p w l0) :
    Calls Tryz.prog 39 #[.slice A0 l0.length c0, .func (.func g) #[] lb] w fun e w' => e = .returned (.int .i64 (idxP p l0 0)) ∧ Below w.heap.size w w' := by
  have HR := Aside0.mk hr0
  have HP := Aside0.mk hp
  have hl : l0.length ≤ 9223372036854775807 := hr0.2.1
  clear hr0 hp
  go_enter Tryz.func39, Tryz.ntmps39
  go_wp2
  go_loopg [5, 8] l0.length (fun gg _ s8 wr => ∃ kk : Nat, kk ≤ l0.length ∧ l0.length - kk ≤ gg ∧ s8 = .int .i64 kk ∧ Aside0 (Below w.heap.size w wr) ∧ Aside0 (idxP p l0 0 = idxP p (l0.drop kk) kk))
  case atStart => exact ⟨0, Nat.zero_le _, by omega, rfl, ⟨Below.refl _ w⟩, ⟨rfl⟩⟩
  case round =>
    obtain ⟨kk, hkk, hg, rfl, BW, A⟩ := hrel
    by_cases hlt : kk < l0.length
    · have hltz : (kk : Int) < (l0.length : Int) := by omega
      obtain ⟨y, hy⟩ := at_some hlt
      have hat := at_Fact HR.out hy
      have HA := Aside0.mk (A.out.trans (by rw [drop_cons hy]))
      have hym := List.mem_of_getElem? hy
      clear A hy
      obtain ⟨ad, A1, c1, e1, hx0, hx1, l1, g1⟩ := hat
      cases e1
      replace hx0 := Below.old BW.out hx0; replace hx1 := Below.old BW.out hx1
      have hcall := HP.out wr y [.string y.pred, .slice A1 y.args.length c1] hym BW.out (k26_mk wr y l1 (Kd.C_below g1 BW.out))
      cases hq : p y with
      | true =>
        rw [hq] at hcall
        go_wp2_with (go_at_fn g; refine hcall.mono ?_; rintro e w' ⟨rfl, hb'⟩)
        go_ret
        exact ⟨by rw [HA.out, idxP, if_pos hq]; rfl, Below.then BW.out hb'⟩
      | false =>
        rw [hq] at hcall
        go_wp2_with (go_at_fn g; refine hcall.mono ?_; rintro e w' ⟨rfl, hb'⟩)
        go_roundg (l0.length - (kk + 1))
        case measure => omega
        case rel => exact ⟨kk + 1, by omega, by omega, by go_num, ⟨Below.then BW.out hb'⟩, ⟨by rw [HA.out, idxP, if_neg (by rw [hq]; decide)]⟩⟩
    · have hltz : ¬ (kk : Int) < (l0.length : Int) := by omega
      obtain rfl : kk = l0.length := by omega
      go_wp2
      go_ret
      exact ⟨by rw [A.out]; simp [idxP], BW.out⟩
/-- slices.ContainsFunc at lambrequin/api.Fact -/
theorem ContainsFuncFact (g : Nat) (lb : Array Value) (eg : ∀ args w, (callFunc g args).run Tryz.prog w = .ok (.enter g args) w) (p : Fact → Bool)
    (A0 : Option Addr) (c0 : Nat) (l0 : List Fact) (w : World) (hr0 : Kd.C k26 w A0 l0.length l0) (hp : PredA Tryz.prog g lb k26 p w l0) :
    Calls Tryz.prog 23 #[.slice A0 l0.length c0, .func (.func g) #[] lb] w fun e w' => e = .returned (.bool (l0.any p)) ∧ Below w.heap.size w w' := by
  have HR := Aside0.mk hr0
  have HP := Aside0.mk hp
  clear hr0 hp
  go_enter Tryz.func23, Tryz.ntmps23
  go_wp2_with (go_at_call 39; go_must (refine (IndexFuncFact g lb eg p _ _ _ _ HR.out HP.out).mono ?_); rintro e w' ⟨rfl, hb⟩)
  go_ret
  exact ⟨by rw [← idxP_any]; rfl, hb⟩
def hasF (l : List Fact) (x : Fact) : Bool := l.any fun f => decide (cmpF f x = 0)
def GHasFact.f (l : List Fact) (p : ByteArray) (q : List Val) : Option Bool := some (hasF l ⟨p, q⟩)
set_option maxRecDepth 100000 in
theorem hasOne (W : World) (x : Fact) (cs : List Value) (p : ByteArray) (A1 : Option Addr) (c1 : Nat) (l1 : List Val) (gb : Nat) (hx : k26.K W x cs) (hr1 : Kd.C k36 W A1 l1.length l1) (hb : W.heap[gb]? = some (.cells #[.string p, .slice A1 l1.length c1] 26 (0, 0))) :
    Calls Tryz.prog 24 #[.agg cs.toArray, .pointer (some ⟨gb, 0, none⟩)] W fun e w' => e = .returned (.bool (decide (cmpF x ⟨p, l1⟩ = 0))) ∧ Below W.heap.size W w' := by
  obtain ⟨A0, c0, rfl, l0, g0⟩ := k26_open hx
  have h0 : W.cell? ⟨gb, 0, none⟩ = some (.string p) := (blk_cell hb 0).trans rfl
  have h1 : W.cell? ⟨gb, 1, none⟩ = some (.slice A1 l1.length c1) := (blk_cell hb 1).trans rfl
  have HK := Aside0.mk (fun W2 (h : Below W.heap.size W W2) => joinCmp x ⟨p, l1⟩ A0 c0 A1 c1 W2 (Kd.C_below g0 h) (Kd.C_below hr1 h))
  have HB := Aside0.mk (below_alloc (Below.refl W.heap.size W) (.cells #[.string x.pred, .slice A0 x.args.length c0] 26))
  have e0 := Below.old HB.out h0
  have e1 := Below.old HB.out h1
  clear hx hr1 hb g0 h0 h1
  obtain ⟨r, hr⟩ : ∃ r : Int, cmpF x ⟨p, l1⟩ = r := ⟨_, rfl⟩
  rw [hr] at HK ⊢
  clear hr
  by_cases hz : r = 0
  · subst hz
    go_enter Tryz.func24, Tryz.ntmps24
    go_wp2_with (go_at_call 25; refine (HK.out _ HB.out).mono ?_; rintro e w2 ⟨rfl, hg⟩; have HG := Aside0.mk hg; clear hg)
    go_ret
    exact ⟨rfl, Below.then HB.out (GrW.below HG.out)⟩
  · have hd : decide (r = 0) = false := decide_eq_false hz
    rw [hd]
    go_enter Tryz.func24, Tryz.ntmps24
    go_wp2_with (go_at_call 25; refine (HK.out _ HB.out).mono ?_; rintro e w2 ⟨rfl, hg⟩; have HG := Aside0.mk hg; clear hg)
    go_ret
    exact ⟨by simp [hz], Below.then HB.out (GrW.below HG.out)⟩
theorem GHasFact.calls (A0 : Option Addr) (c0 : Nat) (l0 : List Fact) (p : ByteArray) (A1 : Option Addr) (c1 : Nat) (l1 : List Val) (r : Bool) (w : World) {gb : Nat} (hr0 : Kd.C k26 w A0 l0.length l0) (hc0 : l0.length ≤ c0) (hr1 : Kd.C k36 w A1 l1.length l1) (hc1 : l1.length ≤ c1)
    (hb : w.heap[gb]? = some (.cells #[.string p, .slice A1 l1.length c1] 26 (0, 0))) (h : GHasFact.f l0 p l1 = some r) :
    Calls Tryz.prog 23 #[.slice A0 l0.length c0, .func (.func 24) #[] #[.pointer (some ⟨gb, 0, none⟩)]] w fun e w' => e = .returned (.bool r) ∧ Below w.heap.size w w' := by
  obtain rfl := Option.some.inj h
  exact ContainsFuncFact 24 _ (enters_of Tryz.func24 (by kernel_rfl) rfl) (fun f => decide (cmpF f ⟨p, l1⟩ = 0)) A0 c0 l0 w hr0 (fun W x cs _ hB hx => hasOne W x cs p A1 c1 l1 gb hx (Kd.C_below hr1 hB) (blk_below hb hB))
end Go.Proofs.YtoekfmdcplphmaaGreat.H
namespace Go.Proofs.YtoekfmdcplphmaaGreat.H
open Go.RowKit Go.Proofs.YtoekfmdcplphmaaGreatW.PrintWords Go.Proofs.YtoekfmdcplphmaaGreatW.PrintLast Go.Proofs.YtoekfmdcplphmaaGreatW.PrintMore
attribute [local go_sem] max2_int min2_int max_two min_two max_three min_three max_four min_four
def facts_Has.f (l0 : List (Fact)) (a1 : ByteArray) (l2 : List (Val)) : Option (Bool) := (facts_fact.f a1 l2).bind fun bt101 => ((GHasFact.f l0 bt101.1 bt101.2).bind fun t106 => (some t106))
set_option maxHeartbeats 8000000 in
set_option maxRecDepth 100000 in
theorem facts_Has.calls (A0 : Option Addr) (c0 : Nat) (l0 : List (Fact)) (a1 : ByteArray) (A2 : Option Addr) (c2 : Nat) (l2 : List (Val)) (r : Bool) (w : World) (hr0 : Kd.C k26 w A0 l0.length l0) (hc0 : l0.length ≤ c0) (hr2 : Kd.C k36 w A2 l2.length l2) (hc2 : l2.length ≤ c2) (h : facts_Has.f l0 a1 l2 = some r) :
  Calls Tryz.prog 8 #[.slice A0 l0.length c0, .string a1, .slice A2 l2.length c2] w fun e w' => e = .returned (.bool r) ∧ Below w.heap.size w w' := by
 have hu26 := Tryz.underlying26
 have HR0 := am hr0
 have HC0 := am hc0
 clear hr0 hc0
 have HR2 := am hr2
 have HC2 := am hc2
 clear hr2 hc2
 have HB := am (Below.refl w.heap.size w)
 have H : ((facts_fact.f a1 l2).bind fun bt101 => ((GHasFact.f l0 bt101.1 bt101.2).bind fun t106 => (some t106))) = some r := h
 clear h
 replace H := Option.bind_eq_some_iff.mp H
 obtain ⟨⟨t101, t102⟩, A40, H⟩ := H
 replace H : ((GHasFact.f l0 t101 t102).bind fun t106 => (some t106)) = some r := H
 have A4 := am A40
 clear A40
 replace H := Option.bind_eq_some_iff.mp H
 obtain ⟨t106, A50, H⟩ := H
 replace H : (some t106) = some r := H
 have A5 := am A50
 clear A50
 obtain rfl := Option.some.inj H
 go_enter Tryz.func8, Tryz.ntmps8
 go_wp2_with (first | ((with_reducible refine gate_callee (f := 22) rfl ?_); refine goesL_ (some 10) rfl rfl Tryz.func22 (by kernel_rfl) rfl #[.string a1, .slice A2 l2.length c2] rfl gl_ ?_; (with_reducible refine (facts_fact.calls a1 (fun k_ => k_ < w.heap.size) _ _ l2 t101 t102 _ ?side1 A4.out).mono ?_); (case side1 => exact Kd.V_mk HC2.out (Kd.F_below (Kd.C_F k36_heap HR2.out) (pL HB.out))); rintro e w6 ⟨v103, rfl, ho0, hb⟩; refine ⟨_, rfl, ?_⟩; have HO104 := am (Kd.V_lower (Kd.V_mono (ok' := fun k_ => True) ho0 (fun k_ hk_ => trivial)) (below_size (pL HB.out))); replace HB := am (bs_ HB.out hb); (try clear hb); (try clear hb2); (try clear hk); (try clear hi); (try clear ho0)) | ((with_reducible refine gate_dst (N := 7) rfl ?_); refine box_event ?hg (N := 7) ?hd (cs := #[.string (⟨#[]⟩ : ByteArray), .slice none 0 0]) (t := 26) ?hr ?_; (case hd => rfl); (case hg => rfl); (case hr => first | (go_simp; done) | (go_simp; rfl)); intro gb105 hg w7 hbox hb; replace HO104 := am (Kd.V_below (Kd.V_elderB (pV HO104.out) gb105 (Nat.le_of_eq hg.symm)) hb); have BK105 := am (hbox); have GW105 := am (gw_ hg HB.out); have GE105 := GW105; replace HB := am (bs_ HB.out hb); clear hb hbox hg; obtain ⟨hcz8_0, hcz8_1, hfz8_0, hfz8_1⟩ := bc2 BK105.out; obtain ⟨Ao9, co9, eo9⟩ := Kd.V_slice HO104.out; subst eo9) | ((with_reducible refine gate_callee (f := 23) rfl ?_); refine goesL_ (some 13) rfl rfl Tryz.func23 (by kernel_rfl) rfl #[.slice A0 l0.length c0, .func (.func 24) #[] #[.pointer (some ⟨gb105, 0, none⟩)]] rfl gl_ ?_; (refine (GHasFact.calls _ _ l0 t101 Ao9 co9 t102 t106 _ ?side1 ?side2 ?side3 ?side4 ?side5 A5.out).mono ?_); (case side1 => exact Kd.C_below HR0.out (pL HB.out)); (case side2 => exact HC0.out); (case side3 => refine (Kd.V_reads' (e := 36) (base := w.heap.size) (ok := fun k_ => (True ∧ k_ ≠ gb105)) (n := t102.length) (c := co9) ?_).2.2; exact (by (with_reducible repeat (first | apply Va | apply Vn | apply Vd)); exact (Kd.V_mono (Kd.V_far (p := ⟨gb105, 1, none⟩) (Kd.V_far (p := ⟨gb105, 0, none⟩) (Kd.V_mono HO104.out (fun k_ hk => (⟨hk, hk.2⟩ : _ ∧ k_ ≠ gb105))) (fun _ hk => hk.2) _) (fun _ hk => hk.2) _) (fun _ h_ => h_.1)))); (case side4 => exact (Kd.V_reads' HO104.out).2.1); (case side5 => (with_reducible repeat (first | refine bN ?_ _ | refine bD ?_ | refine bA ?_ _)); exact bq2 BK105.out); rintro e w10 ⟨rfl, hb⟩; refine ⟨_, rfl, ?_⟩; replace HO104 := am (Kd.V_below (by (with_reducible repeat (first | apply Va | apply Vn | apply Vd)); exact (Kd.V_mono (Kd.V_far (p := ⟨gb105, 1, none⟩) (Kd.V_far (p := ⟨gb105, 0, none⟩) (Kd.V_mono HO104.out (fun k_ hk => (⟨hk, hk.2⟩ : _ ∧ k_ ≠ gb105))) (fun _ hk => hk.2) _) (fun _ hk => hk.2) _) (fun _ h_ => h_.1))) hb); replace BK105 := am (blk_below (g := gb105) (o := .cells #[.string t101, .slice Ao9 t102.length co9] 26 (0, 0)) (by (with_reducible repeat (first | refine bN ?_ _ | refine bD ?_ | refine bA ?_ _)); exact bq2 BK105.out) hb); replace HB := am (bs_ HB.out hb); (try clear hb); (try clear hb2); (try clear hk); (try clear hi)))
 go_ret
 exact ⟨er_, pL HB.out⟩
end Go.Proofs.YtoekfmdcplphmaaGreat.H
/- a flow's facts, in plain words -/
namespace Go.Proofs.YtoekfmdcplphmaaGreat.H
open Go.RowKit Go.Proofs.YtoekfmdcplphmaaGreatW.PrintWords
def bareVal (v : Val) : Val := if v.isSym = true then symV v.sym else numV v.n
theorem bareVal_id {v : Val} (h : bareV v = true) : bareVal v = v := by
  obtain ⟨s, t, n⟩ := v
  cases s <;> simp [bareV, bareVal] at h ⊢
  · subst h; rfl
  · subst h; rfl
theorem bare_eq (v : Val) : tuple_bare.f v.isSym v.sym v.n = some ((bareVal v).isSym, (bareVal v).sym, (bareVal v).n) := by
  unfold tuple_bare.f bareVal
  by_cases h : v.isSym = true
  · rw [if_pos h, if_pos h]; rfl
  · rw [if_neg h, if_neg h]; rfl
theorem tuple_l0 (l : List Val) (hl : l.length ≤ 1000) : ∀ (r : List Val) (i : Nat) (acc : List Val), l.drop i = r → acc.length + r.length ≤ 1000 → Ev (fun k => tuple_Of.l0 k acc l (l.length : Int) i) (acc ++ r.map bareVal)
  | [], i, acc, h, ha => by
    refine Ev.step (fun k => by rw [tuple_Of.l0]) ?_
    refine Ev.neg (drop_end h) ?_
    exact Ev.some (by simp)
  | y :: r, i, acc, h, ha => by
    obtain ⟨g1, g2, g3, g4, g5⟩ := drop_more h (by omega)
    refine Ev.step (fun k => by rw [tuple_Of.l0]) ?_
    refine Ev.pos g1 ?_
    refine Ev.pos g2 ?_
    refine Ev.pos g1 ?_
    rw [show rd_T36 l i = y from g3 _, g5]
    refine Ev.pure (bare_eq y) ?_
    refine Ev.pos (by simp at ha ⊢; omega) ?_
    exact Ev.iff (tuple_l0 l hl r (i + 1) (acc ++ [bareVal y]) g4 (by simp at ha ⊢; omega)) (by simp)
theorem tuple_ev {l : List Val} (hl : l.length ≤ 1000) (hb : l.all bareV = true) : Ev (fun k => tuple_Of.f k l) l := by
  unfold tuple_Of.f
  refine Ev.iff (tuple_l0 l hl l 0 [] rfl (by simpa using hl)) ?_
  rw [List.all_eq_true] at hb
  rw [List.nil_append]
  conv => rhs; rw [← List.map_id l]
  exact List.map_congr_left fun x hx => bareVal_id (hb x hx)
section
variable (l : List Fact) (hl : l.length ≤ 100000) (hb : bareL l = true) (ha : ∀ f ∈ l, f.args.length ≤ 1000)
include hl hb ha
theorem join_l0 : ∀ (r : List Fact) (i : Nat) (acc : List Fact), l.drop i = r → acc ++ r = l → Ev (fun k => join_Sort.l0 k acc l (l.length : Int) i) (dd (sortF l))
  | [], i, acc, h, e => by
    refine Ev.step (fun k => by rw [join_Sort.l0]) ?_
    refine Ev.neg (drop_end h) ?_
    obtain rfl : acc = l := by simpa using e
    refine Ev.pure (o := GSortFact.f acc) (by unfold GSortFact.f; rw [if_pos ⟨by omega, hb⟩]) ?_
    refine Ev.pure (o := GCompactFact.f (sortF acc)) (by unfold GCompactFact.f; rw [if_pos (bareL_sort hb)]) ?_
    exact Ev.now _
  | y :: r, i, acc, h, e => by
    obtain ⟨g1, g2, g3, g4, g5⟩ := drop_more h (by omega)
    have hy : y ∈ l := by rw [← e]; simp
    have hbb := hb
    unfold bareL at hbb
    rw [List.all_eq_true] at hbb
    refine Ev.step (fun k => by rw [join_Sort.l0]) ?_
    refine Ev.pos g1 ?_
    refine Ev.pos g2 ?_
    refine Ev.pos g1 ?_
    rw [show rd_T26 l i = y from g3 _, g5]
    refine Ev.bind (tuple_ev (ha y hy) (hbb y hy)) ?_
    have hac : acc.length ≤ l.length := by rw [← e]; simp
    refine Ev.pos (by omega) ?_
    exact join_l0 r (i + 1) (acc ++ [y]) g4 (by rw [← e]; simp)
theorem join_ev : Ev (fun k => join_Sort.f k l) (dd (sortF l)) := by
  unfold join_Sort.f
  exact join_l0 l hl hb ha l 0 [] rfl rfl
end
theorem bare_num (n : Int) : bareV (numV n) = true := rfl
theorem bare_sym (s : ByteArray) : bareV (symV s) = true := rfl
theorem useF_ok {st : Stmt} {n : Int} {y : ByteArray} {f : Fact} (h : f ∈ useF st n y) : bareF f = true ∧ 0 < f.args.length ∧ f.args.length ≤ 3 := by
  unfold useF at h
  split at h
  · simp at h; rcases h with rfl | rfl <;> exact ⟨rfl, by simp, by simp⟩
  · simp at h; subst h; exact ⟨rfl, by simp, by simp⟩
theorem oneL_ok {s : List Stmt} {n : Int} {f : Fact} (h : f ∈ oneL s n) : bareF f = true ∧ 0 < f.args.length ∧ f.args.length ≤ 3 := by
  unfold oneL at h
  rw [List.mem_append, List.mem_append, List.mem_cons] at h
  rcases h with ((rfl | h) | h) | h
  · exact ⟨rfl, by simp, by simp⟩
  · obtain ⟨m, _, rfl⟩ := List.mem_map.1 h
    exact ⟨rfl, by simp, by simp⟩
  · obtain ⟨y, _, h⟩ := List.mem_flatMap.1 h
    exact useF_ok h
  · unfold defF at h
    split at h
    case isFalse => simp at h
    rw [List.mem_cons] at h
    rcases h with rfl | h
    · exact ⟨rfl, by simp, by simp⟩
    split at h
    · simp at h; subst h; exact ⟨rfl, by simp, by simp⟩
    split at h
    · obtain ⟨y, _, rfl⟩ := List.mem_map.1 h; exact ⟨rfl, by simp, by simp⟩
    · simp at h
def factsL (s : List Stmt) : List Fact := (List.range s.length).flatMap fun m : Nat => oneL s (m : Int)
def ofF (s : List Stmt) : List Fact := dd (sortF (factsL s))
theorem of_l0 (s : List Stmt) (hs : s.length ≤ 1000) : ∀ (d i : Nat) (acc : List Fact), i + d = s.length → acc.length ≤ 20 * i → (∀ f ∈ acc, bareF f = true ∧ f.args.length ≤ 3) →
    Ev (fun k => facts_Of.l0 k s acc (s.length : Int) i) (dd (sortF (acc ++ (List.range' i d).flatMap fun m : Nat => oneL s (m : Int))))
  | 0, i, acc, h, ha, hb => by
    refine Ev.step (fun k => by rw [facts_Of.l0]) ?_
    refine Ev.neg (by omega) ?_
    refine Ev.bind (join_ev acc (by omega) (by unfold bareL; rw [List.all_eq_true]; exact fun f hf => (hb f hf).1) (fun f hf => by have := (hb f hf).2; omega)) ?_
    exact Ev.some (by simp)
  | d + 1, i, acc, h, ha, hb => by
    refine Ev.step (fun k => by rw [facts_Of.l0]) ?_
    refine Ev.pos (by omega) ?_
    refine Ev.bind (one_ev s i (by omega) (by omega)) ?_
    have hl := oneL_len s i
    refine Ev.pos (by omega) ?_
    rw [wrap_up (by omega)]
    refine Ev.iff (of_l0 s hs d (i + 1) (acc ++ oneL s i) (by omega) (by rw [List.length_append]; omega) (fun f hf => ?_)) ?_
    · rcases List.mem_append.1 hf with hf | hf
      · exact hb f hf
      · exact ⟨(oneL_ok hf).1, (oneL_ok hf).2.2⟩
    · rw [List.range'_succ, List.flatMap_cons, List.append_assoc]
theorem of_ev (s : List Stmt) (hs : s.length ≤ 1000) : Ev (fun k => facts_Of.f k s) (ofF s) := by
  unfold facts_Of.f ofF factsL
  refine Ev.iff (of_l0 s hs s.length 0 [] (by omega) (by simp) (by simp)) ?_
  rw [List.range_eq_range']; rfl
theorem mem_factsL {s : List Stmt} {f : Fact} : f ∈ factsL s ↔ ∃ n : Int, 0 ≤ n ∧ n < (s.length : Int) ∧ f ∈ oneL s n := by
  unfold factsL
  rw [List.mem_flatMap]
  constructor
  · rintro ⟨m, hm, h⟩
    exact ⟨m, by omega, by have := List.mem_range.1 hm; omega, h⟩
  · rintro ⟨n, h0, h1, h⟩
    refine ⟨n.toNat, List.mem_range.2 (by omega), ?_⟩
    rwa [show ((n.toNat : Nat) : Int) = n by omega]
theorem mem_ofF {s : List Stmt} {f : Fact} : f ∈ ofF s ↔ f ∈ factsL s := by unfold ofF; rw [mem_dd, sortF_mem]
theorem factsL_ok {s : List Stmt} {f : Fact} (h : f ∈ factsL s) : bareF f = true ∧ 0 < f.args.length ∧ f.args.length ≤ 3 := by
  obtain ⟨n, _, _, h⟩ := mem_factsL.1 h
  exact oneL_ok h
theorem has_eq (s : List Stmt) (x : Fact) (hx : bareF x = true) : hasF (ofF s) x = decide (x ∈ factsL s) := by
  unfold hasF
  rw [Bool.eq_iff_iff, List.any_eq_true, decide_eq_true_iff]
  constructor
  · rintro ⟨f, hf, h⟩
    have hm := mem_ofF.1 hf
    obtain rfl := (cmpF_zero (factsL_ok hm).1 hx).1 (of_decide_eq_true h)
    exact hm
  · intro h
    exact ⟨x, mem_ofF.2 h, decide_eq_true (ordF.self x)⟩
theorem Has_eq (l : List Fact) (p : ByteArray) (a : List Val) : facts_Has.f l p a = some (hasF l ⟨p, a⟩) := rfl
theorem oneL_num {s : List Stmt} {n : Int} {f : Fact} (h : f ∈ oneL s n) : f.args.head? = some (numV n) := by
  unfold oneL at h
  rw [List.mem_append, List.mem_append, List.mem_cons] at h
  rcases h with ((rfl | h) | h) | h
  · rfl
  · obtain ⟨m, _, rfl⟩ := List.mem_map.1 h; rfl
  · obtain ⟨y, _, h⟩ := List.mem_flatMap.1 h
    unfold useF at h
    split at h <;> simp at h
    · rcases h with rfl | rfl <;> rfl
    · subst h; rfl
  · unfold defF at h
    split at h
    case isFalse => simp at h
    rw [List.mem_cons] at h
    rcases h with rfl | h
    · rfl
    split at h
    · simp at h; subst h; rfl
    split at h
    · obtain ⟨y, _, rfl⟩ := List.mem_map.1 h; rfl
    · simp at h
theorem mem_at {s : List Stmt} {n : Int} {f : Fact} (hf : f.args.head? = some (numV n)) : f ∈ factsL s ↔ 0 ≤ n ∧ n < (s.length : Int) ∧ f ∈ oneL s n := by
  rw [mem_factsL]
  constructor
  · rintro ⟨m, h0, h1, h⟩
    have := (oneL_num h).symm.trans hf
    simp at this
    subst this
    exact ⟨h0, h1, h⟩
  · rintro ⟨h0, h1, h⟩
    exact ⟨n, h0, h1, h⟩
theorem mem_oneL {s : List Stmt} {n : Int} {f : Fact} : f ∈ oneL s n ↔ f = fNode n ∨ (∃ m ∈ nxt s n, f = fNext n m) ∨ (∃ y ∈ usesS (at_ s n), f = fUse n y) ∨ ((at_ s n).kind = 6 ∧ ∃ y ∈ usesS (at_ s n), f = fSink n y) ∨
    ((defN (at_ s n)).2 = true ∧ f = fDef n (defN (at_ s n)).1) ∨ ((defN (at_ s n)).2 = true ∧ (at_ s n).kind = 4 ∧ f = fSource n (defN (at_ s n)).1) ∨ ((defN (at_ s n)).2 = true ∧ ((at_ s n).kind = 2 ∨ (at_ s n).kind = 3) ∧ ∃ y ∈ usesS (at_ s n), f = fFlow n (defN (at_ s n)).1 y) := by
  have hu : ∀ y, f ∈ useF (at_ s n) n y ↔ f = fUse n y ∨ ((at_ s n).kind = 6 ∧ f = fSink n y) := by
    intro y
    unfold useF
    by_cases h : (at_ s n).kind = 6
    · rw [if_pos h, List.mem_cons, List.mem_singleton]; simp only [h, true_and]
    · rw [if_neg h, List.mem_cons]; simp only [h, false_and, List.not_mem_nil]
  have hd : f ∈ defF (at_ s n) n (usesS (at_ s n)) ↔ (defN (at_ s n)).2 = true ∧ (f = fDef n (defN (at_ s n)).1 ∨ ((at_ s n).kind = 4 ∧ f = fSource n (defN (at_ s n)).1) ∨ (((at_ s n).kind = 2 ∨ (at_ s n).kind = 3) ∧ ∃ y ∈ usesS (at_ s n), f = fFlow n (defN (at_ s n)).1 y)) := by
    unfold defF
    by_cases h : (defN (at_ s n)).2 = true
    · rw [if_pos h, List.mem_cons]
      by_cases k4 : (at_ s n).kind = 4
      · rw [if_pos k4, List.mem_singleton]
        have k2 : ¬ ((at_ s n).kind = 2 ∨ (at_ s n).kind = 3) := by omega
        simp only [h, k4, k2, true_and, false_and, or_false]
        simp
      · rw [if_neg k4]
        by_cases k2 : (at_ s n).kind = 2 ∨ (at_ s n).kind = 3
        · rw [if_pos k2, List.mem_map]
          simp only [h, k4, k2, true_and, false_and, false_or]
          constructor
          · rintro (h | ⟨y, hy, rfl⟩)
            · exact .inl h
            · exact .inr ⟨y, hy, rfl⟩
          · rintro (h | ⟨y, hy, rfl⟩)
            · exact .inl h
            · exact .inr ⟨y, hy, rfl⟩
        · rw [if_neg k2]
          simp only [h, k4, k2, true_and, false_and, or_false, List.not_mem_nil]
    · rw [if_neg h]
      simp only [h, false_and, List.not_mem_nil]
      simp
  unfold oneL
  rw [List.mem_append, List.mem_append, List.mem_cons, List.mem_map, List.mem_flatMap, hd]
  constructor
  · rintro (((h | ⟨m, hm, rfl⟩) | ⟨y, hy, h⟩) | ⟨h1, h | ⟨k, h⟩ | ⟨k, h⟩⟩)
    · exact .inl h
    · exact .inr (.inl ⟨m, hm, rfl⟩)
    · rcases (hu y).1 h with h | ⟨k, h⟩
      · exact .inr (.inr (.inl ⟨y, hy, h⟩))
      · exact .inr (.inr (.inr (.inl ⟨k, y, hy, h⟩)))
    · exact .inr (.inr (.inr (.inr (.inl ⟨h1, h⟩))))
    · exact .inr (.inr (.inr (.inr (.inr (.inl ⟨h1, k, h⟩)))))
    · exact .inr (.inr (.inr (.inr (.inr (.inr ⟨h1, k, h⟩)))))
  · rintro (h | ⟨m, hm, rfl⟩ | ⟨y, hy, h⟩ | ⟨k, y, hy, h⟩ | ⟨h1, h⟩ | ⟨h1, k, h⟩ | ⟨h1, k, h⟩)
    · exact .inl (.inl (.inl h))
    · exact .inl (.inl (.inr ⟨m, hm, rfl⟩))
    · exact .inl (.inr ⟨y, hy, (hu y).2 (.inl h)⟩)
    · exact .inl (.inr ⟨y, hy, (hu y).2 (.inr ⟨k, h⟩)⟩)
    · exact .inr ⟨h1, .inl h⟩
    · exact .inr ⟨h1, .inr (.inl ⟨k, h⟩)⟩
    · exact .inr ⟨h1, .inr (.inr ⟨k, h⟩)⟩
theorem no_pred {f g : Fact} (hne : f.pred ≠ g.pred) (h : f = g) : False := hne (congrArg Fact.pred h)
/-- the kinds of facts are seven -/
theorem kinds7 : ([⟨#[110, 111, 100, 101]⟩, ⟨#[110, 101, 120, 116]⟩, ⟨#[117, 115, 101]⟩, ⟨#[115, 105, 110, 107]⟩, ⟨#[100, 101, 102]⟩, ⟨#[115, 111, 117, 114, 99, 101]⟩, ⟨#[102, 108, 111, 119]⟩] : List ByteArray).Nodup := by decide
section
variable {s : List Stmt} {n m : Int} {x y : ByteArray}
theorem mem_node : fNode n ∈ factsL s ↔ 0 ≤ n ∧ n < (s.length : Int) := by
  rw [mem_at rfl]
  exact ⟨fun h => ⟨h.1, h.2.1⟩, fun h => ⟨h.1, h.2, mem_oneL.2 (.inl rfl)⟩⟩
theorem mem_next : fNext n m ∈ factsL s ↔ m ∈ nxt s n := by
  rw [mem_at rfl]
  constructor
  · rintro ⟨h0, h1, h⟩
    rcases mem_oneL.1 h with h | ⟨m', hm, h⟩ | ⟨y, hy, h⟩ | ⟨k, y, hy, h⟩ | ⟨h1, h⟩ | ⟨h1, k, h⟩ | ⟨h1, k, y, hy, h⟩
    · exact (no_pred (by simp) h).elim
    · have : m = m' := by simpa using h
      exact this ▸ hm
    all_goals exact (no_pred (by simp) h).elim
  · intro h
    have hw := nxt_within h
    exact ⟨hw.2.2.1, hw.2.2.2, mem_oneL.2 (.inr (.inl ⟨m, h, rfl⟩))⟩
theorem mem_use : fUse n x ∈ factsL s ↔ 0 ≤ n ∧ n < (s.length : Int) ∧ x ∈ usesS (at_ s n) := by
  rw [mem_at rfl]
  refine ⟨fun ⟨h0, h1, h⟩ => ⟨h0, h1, ?_⟩, fun ⟨h0, h1, h⟩ => ⟨h0, h1, mem_oneL.2 (.inr (.inr (.inl ⟨x, h, rfl⟩)))⟩⟩
  rcases mem_oneL.1 h with h | ⟨m', hm, h⟩ | ⟨y, hy, h⟩ | ⟨k, y, hy, h⟩ | ⟨h1, h⟩ | ⟨h1, k, h⟩ | ⟨h1, k, y, hy, h⟩
  · exact (no_pred (by simp) h).elim
  · exact (no_pred (by simp) h).elim
  · have : x = y := by simpa using h
    exact this ▸ hy
  all_goals exact (no_pred (by simp) h).elim
theorem mem_sink : fSink n x ∈ factsL s ↔ 0 ≤ n ∧ n < (s.length : Int) ∧ x ∈ usesS (at_ s n) ∧ (at_ s n).kind = 6 := by
  rw [mem_at rfl]
  refine ⟨fun ⟨h0, h1, h⟩ => ⟨h0, h1, ?_⟩, fun ⟨h0, h1, h, k⟩ => ⟨h0, h1, mem_oneL.2 (.inr (.inr (.inr (.inl ⟨k, x, h, rfl⟩))))⟩⟩
  rcases mem_oneL.1 h with h | ⟨m', hm, h⟩ | ⟨y, hy, h⟩ | ⟨k, y, hy, h⟩ | ⟨h1, h⟩ | ⟨h1, k, h⟩ | ⟨h1, k, y, hy, h⟩
  · exact (no_pred (by simp) h).elim
  · exact (no_pred (by simp) h).elim
  · exact (no_pred (by simp) h).elim
  · have : x = y := by simpa using h
    exact ⟨this ▸ hy, k⟩
  all_goals exact (no_pred (by simp) h).elim
theorem mem_def : fDef n x ∈ factsL s ↔ 0 ≤ n ∧ n < (s.length : Int) ∧ (defN (at_ s n)).2 = true ∧ (defN (at_ s n)).1 = x := by
  rw [mem_at rfl]
  refine ⟨fun ⟨h0, h1, h⟩ => ⟨h0, h1, ?_⟩, fun ⟨h0, h1, h, k⟩ => ⟨h0, h1, mem_oneL.2 (.inr (.inr (.inr (.inr (.inl ⟨h, by rw [k]⟩)))))⟩⟩
  rcases mem_oneL.1 h with h | ⟨m', hm, h⟩ | ⟨y, hy, h⟩ | ⟨k, y, hy, h⟩ | ⟨h1, h⟩ | ⟨h1, k, h⟩ | ⟨h1, k, y, hy, h⟩
  · exact (no_pred (by simp) h).elim
  · exact (no_pred (by simp) h).elim
  · exact (no_pred (by simp) h).elim
  · exact (no_pred (by simp) h).elim
  · have : x = (defN (at_ s n)).1 := by simpa using h
    exact ⟨h1, this.symm⟩
  all_goals exact (no_pred (by simp) h).elim
theorem mem_source : fSource n x ∈ factsL s ↔ 0 ≤ n ∧ n < (s.length : Int) ∧ (defN (at_ s n)).2 = true ∧ (defN (at_ s n)).1 = x ∧ (at_ s n).kind = 4 := by
  rw [mem_at rfl]
  refine ⟨fun ⟨h0, h1, h⟩ => ⟨h0, h1, ?_⟩, fun ⟨h0, h1, h, k, k4⟩ => ⟨h0, h1, mem_oneL.2 (.inr (.inr (.inr (.inr (.inr (.inl ⟨h, k4, by rw [k]⟩))))))⟩⟩
  rcases mem_oneL.1 h with h | ⟨m', hm, h⟩ | ⟨y, hy, h⟩ | ⟨k, y, hy, h⟩ | ⟨h1, h⟩ | ⟨h1, k, h⟩ | ⟨h1, k, y, hy, h⟩
  · exact (no_pred (by simp) h).elim
  · exact (no_pred (by simp) h).elim
  · exact (no_pred (by simp) h).elim
  · exact (no_pred (by simp) h).elim
  · exact (no_pred (by simp) h).elim
  · have : x = (defN (at_ s n)).1 := by simpa using h
    exact ⟨h1, this.symm, k⟩
  · exact (no_pred (by simp) h).elim
theorem mem_flow : fFlow n x y ∈ factsL s ↔ 0 ≤ n ∧ n < (s.length : Int) ∧ (defN (at_ s n)).2 = true ∧ (defN (at_ s n)).1 = x ∧ ((at_ s n).kind = 2 ∨ (at_ s n).kind = 3) ∧ y ∈ usesS (at_ s n) := by
  rw [mem_at rfl]
  refine ⟨fun ⟨h0, h1, h⟩ => ⟨h0, h1, ?_⟩, fun ⟨h0, h1, h, k, k4, hy⟩ => ⟨h0, h1, mem_oneL.2 (.inr (.inr (.inr (.inr (.inr (.inr ⟨h, k4, y, hy, by rw [k]⟩))))))⟩⟩
  rcases mem_oneL.1 h with h | ⟨m', hm, h⟩ | ⟨y', hy, h⟩ | ⟨k, y', hy, h⟩ | ⟨h1, h⟩ | ⟨h1, k, h⟩ | ⟨h1, k, y', hy, h⟩
  · exact (no_pred (by simp) h).elim
  · exact (no_pred (by simp) h).elim
  · exact (no_pred (by simp) h).elim
  · exact (no_pred (by simp) h).elim
  · exact (no_pred (by simp) h).elim
  · exact (no_pred (by simp) h).elim
  · obtain ⟨e1, e2⟩ : x = (defN (at_ s n)).1 ∧ y = y' := by simpa using h
    exact ⟨h1, e1.symm, k, e2 ▸ hy⟩
end
theorem HasOf {s : List Stmt} {p : ByteArray} {a : List Val} {b : Bool} (hb : bareF ⟨p, a⟩ = true) (h : b = true ↔ (⟨p, a⟩ : Fact) ∈ factsL s) : facts_Has.f (ofF s) p a = some b := by
  rw [Has_eq, has_eq s _ hb]
  congr 1
  rw [Bool.eq_iff_iff, decide_eq_true_iff, h]
def ex21 : List Stmt := [⟨4, ⟨#[120]⟩, noS, noS, noS, 0, 0, 0⟩, ⟨9, noS, noS, noS, noS, 0, 0, 0⟩]
def exF : List Fact := [fDef 0 ⟨#[120]⟩, fNext 0 1, fNode 0, fNode 1, fSource 0 ⟨#[120]⟩]
theorem ex_facts : factsL ex21 = [fNode 0, fNext 0 1, fDef 0 ⟨#[120]⟩, fSource 0 ⟨#[120]⟩, fNode 1] := by
  simp [factsL, ex21, oneL, useF, defF, nxt, nxtRaw, at_, rd_T34, defN, usesS, withinB, wrap64, List.range_succ]
theorem ex_of : ofF ex21 = exF := by
  have h : exF = sortF (factsL ex21) := sortF_eq (by rw [ex_facts]; decide) (by rw [ex_facts]; decide) (by decide)
  unfold ofF
  rw [← h]
  decide
end Go.Proofs.YtoekfmdcplphmaaGreat.H
namespace Go.Proofs.YtoekfmdcplphmaaGreat.H
open Go.RowKit Go.Proofs.YtoekfmdcplphmaaGreatW.PrintWords Go.Proofs.YtoekfmdcplphmaaGreatW.PrintLast Go.Proofs.YtoekfmdcplphmaaGreatW.PrintMore
attribute [local go_sem] max2_int min2_int max_two min_two max_three min_three max_four min_four
def lambrequinlaw21_num.f (a0 : Int) : Option (Bool × ByteArray × Int) := some (false, (⟨#[]⟩ : ByteArray), a0)
set_option maxHeartbeats 8000000 in
set_option maxRecDepth 100000 in
theorem lambrequinlaw21_num.calls (a0 : Int) (r1 : Bool) (r2 : ByteArray) (r3 : Int) (w : World) (h : lambrequinlaw21_num.f a0 = some (r1, r2, r3)) :
  Calls Tryz.prog 10 #[.int .i64 a0] w fun e w' => e = .returned (.agg #[.bool r1, .string r2, .int .i64 r3]) ∧ Below w.heap.size w w' := by
 have hu36 := Tryz.underlying36
 have HB := am (Below.refl w.heap.size w)
 have H : (some (false, (⟨#[]⟩ : ByteArray), a0)) = some (r1, r2, r3) := h
 clear h
 simp only [Option.some.injEq, Prod.mk.injEq] at H
 obtain ⟨rfl, rfl, rfl⟩ := H
 go_enter Tryz.func10, Tryz.ntmps10
 go_wp2_with (first | ((with_reducible refine gate_dst (N := 2) rfl ?_); refine box_event ?hg (N := 2) ?hd (cs := #[.bool false, .string (⟨#[]⟩ : ByteArray), .int .i64 0]) (t := 36) ?hr ?_; (case hd => rfl); (case hg => rfl); (case hr => first | (go_simp; done) | (go_simp; rfl)); intro gb101 hg w2 hbox hb; have BK101 := am (hbox); have GW101 := am (gw_ hg HB.out); have GE101 := GW101; replace HB := am (bs_ HB.out hb); clear hb hbox hg; obtain ⟨hcz3_0, hcz3_1, hcz3_2, hfz3_0, hfz3_1, hfz3_2⟩ := bc3 BK101.out))
 refine bodyPost_ret (results_cell_row rfl _ _ gb101 36 #[.bool false, .string (⟨#[]⟩ : ByteArray), .int .i64 a0] (0, 0) _ rfl (by (with_reducible repeat (first | refine bN ?_ _ | refine bD ?_ | refine bA ?_ _)); exact bq3 BK101.out) Tryz.underlying36 rfl (by kernel_rfl)) rfl ?_
 exact ⟨er_, pL HB.out⟩
def lambrequinlaw21_sym.f (a0 : ByteArray) : Option (Bool × ByteArray × Int) := some (true, a0, 0)
set_option maxHeartbeats 8000000 in
set_option maxRecDepth 100000 in
theorem lambrequinlaw21_sym.calls (a0 : ByteArray) (r1 : Bool) (r2 : ByteArray) (r3 : Int) (w : World) (h : lambrequinlaw21_sym.f a0 = some (r1, r2, r3)) :
  Calls Tryz.prog 11 #[.string a0] w fun e w' => e = .returned (.agg #[.bool r1, .string r2, .int .i64 r3]) ∧ Below w.heap.size w w' := by
 have hu36 := Tryz.underlying36
 have HB := am (Below.refl w.heap.size w)
 have H : (some (true, a0, 0)) = some (r1, r2, r3) := h
 clear h
 simp only [Option.some.injEq, Prod.mk.injEq] at H
 obtain ⟨rfl, rfl, rfl⟩ := H
 go_enter Tryz.func11, Tryz.ntmps11
 go_wp2_with (first | ((with_reducible refine gate_dst (N := 2) rfl ?_); refine box_event ?hg (N := 2) ?hd (cs := #[.bool false, .string (⟨#[]⟩ : ByteArray), .int .i64 0]) (t := 36) ?hr ?_; (case hd => rfl); (case hg => rfl); (case hr => first | (go_simp; done) | (go_simp; rfl)); intro gb101 hg w2 hbox hb; have BK101 := am (hbox); have GW101 := am (gw_ hg HB.out); have GE101 := GW101; replace HB := am (bs_ HB.out hb); clear hb hbox hg; obtain ⟨hcz3_0, hcz3_1, hcz3_2, hfz3_0, hfz3_1, hfz3_2⟩ := bc3 BK101.out))
 refine bodyPost_ret (results_cell_row rfl _ _ gb101 36 #[.bool true, .string a0, .int .i64 0] (0, 0) _ rfl (by (with_reducible repeat (first | refine bN ?_ _ | refine bD ?_ | refine bA ?_ _)); exact bq3 BK101.out) Tryz.underlying36 rfl (by kernel_rfl)) rfl ?_
 exact ⟨er_, pL HB.out⟩
def lambrequinlaw21_shown.j0 : Nat → List (Fact) → Option (Bool)
 | 0, _ => none
 | k + 1, x1 => if (x1.length : Int) = 5 then (if 0 < (x1.length : Int) then (if ((rd_T26 x1 0).pred).toList = ([100, 101, 102] : List UInt8) then ((lambrequinlaw21_num.f 0).bind fun bt108 => ((lambrequinlaw21_num.f 1).bind fun bt111 => ((facts_Has.f x1 (⟨#[110, 101, 120, 116]⟩ : ByteArray) (([(⟨bt108.1, bt108.2.1, bt108.2.2⟩ : Val), (⟨bt111.1, bt111.2.1, bt111.2.2⟩ : Val)] : List (Val)))).bind fun t117 => (if t117 = true then ((lambrequinlaw21_num.f 0).bind fun bt118 => ((lambrequinlaw21_sym.f (⟨#[120]⟩ : ByteArray)).bind fun bt121 => ((facts_Has.f x1 (⟨#[115, 111, 117, 114, 99, 101]⟩ : ByteArray) (([(⟨bt118.1, bt118.2.1, bt118.2.2⟩ : Val), (⟨bt121.1, bt121.2.1, bt121.2.2⟩ : Val)] : List (Val)))).bind fun t127 => (if t127 = true then ((lambrequinlaw21_num.f 1).bind fun bt128 => ((lambrequinlaw21_num.f 0).bind fun bt131 => ((facts_Has.f x1 (⟨#[110, 101, 120, 116]⟩ : ByteArray) (([(⟨bt128.1, bt128.2.1, bt128.2.2⟩ : Val), (⟨bt131.1, bt131.2.1, bt131.2.2⟩ : Val)] : List (Val)))).bind fun t137 => (some (!t137))))) else (some false))))) else (some false))))) else (some false)) else (none)) else (some false)
def lambrequinlaw21_shown.f (k : Nat)  : Option (Bool) := (facts_Of.f k (([(⟨4, (⟨#[120]⟩ : ByteArray), (⟨#[]⟩ : ByteArray), (⟨#[]⟩ : ByteArray), (⟨#[]⟩ : ByteArray), 0, 0, 0⟩ : Stmt), (⟨9, (⟨#[]⟩ : ByteArray), (⟨#[]⟩ : ByteArray), (⟨#[]⟩ : ByteArray), (⟨#[]⟩ : ByteArray), 0, 0, 0⟩ : Stmt)] : List (Stmt)))).bind fun t104 => (lambrequinlaw21_shown.j0 k t104)
theorem lambrequinlaw21_shown.mono_l : ∀ k, (∀ y0, LeO (lambrequinlaw21_shown.j0 k y0) (lambrequinlaw21_shown.j0 (k + 1) y0))
 | 0 => fun _ r h => by simp [lambrequinlaw21_shown.j0] at h
 | k + 1 => by
  have ih0 := lambrequinlaw21_shown.mono_l k
  intro y0
  unfold lambrequinlaw21_shown.j0
  repeat' first
  | (with_reducible exact ih0 _)
  | (with_reducible exact facts_Of.mono _ _)
  | (with_reducible exact LeO.refl _)
  | (with_reducible exact LeO.none _)
  | (with_reducible refine LeO.ite ?_ ?_)
  | (with_reducible refine LeO.bind ?_ (fun _ => ?_))
  | exact ih0 _
  | exact facts_Of.mono _ _
  | exact LeO.none _
  | refine LeO.ite ?_ ?_
  | refine LeO.bind ?_ (fun _ => ?_)
theorem lambrequinlaw21_shown.mono : ∀ k, LeO (lambrequinlaw21_shown.f k ) (lambrequinlaw21_shown.f (k + 1) ) := by
 intro  k
 have ih0 := lambrequinlaw21_shown.mono_l k
 unfold lambrequinlaw21_shown.f
 repeat' first
   | (with_reducible exact ih0 _)
   | (with_reducible exact facts_Of.mono _ _)
   | (with_reducible exact LeO.refl _)
   | (with_reducible exact LeO.none _)
   | (with_reducible refine LeO.ite ?_ ?_)
   | (with_reducible refine LeO.bind ?_ (fun _ => ?_))
   | exact ih0 _
   | exact facts_Of.mono _ _
   | exact LeO.none _
   | refine LeO.ite ?_ ?_
   | refine LeO.bind ?_ (fun _ => ?_)
set_option maxHeartbeats 8000000 in
set_option maxRecDepth 100000 in
theorem lambrequinlaw21_shown.calls (k : Nat)  (r : Bool) (w : World) (h : lambrequinlaw21_shown.f k  = some r) :
  Calls Tryz.prog 4 #[] w fun e w' => e = .returned (.bool r) ∧ Below w.heap.size w w' := by
 have hu34 := Tryz.underlying34
 have HB := am (Below.refl w.heap.size w)
 have H : ((facts_Of.f k (([(⟨4, (⟨#[120]⟩ : ByteArray), (⟨#[]⟩ : ByteArray), (⟨#[]⟩ : ByteArray), (⟨#[]⟩ : ByteArray), 0, 0, 0⟩ : Stmt), (⟨9, (⟨#[]⟩ : ByteArray), (⟨#[]⟩ : ByteArray), (⟨#[]⟩ : ByteArray), (⟨#[]⟩ : ByteArray), 0, 0, 0⟩ : Stmt)] : List (Stmt)))).bind fun t104 => (lambrequinlaw21_shown.j0 k t104)) = some r := h
 clear h
 have HC1 := am H
 clear H
 go_enter Tryz.func4, Tryz.ntmps4
 go_upto_region 1 with (fail)
 go_cut [1] (fun v1 wc => ∃ (kq : Nat) (x1_0 : List (Fact)), Aside0 (lambrequinlaw21_shown.j0 kq x1_0 = some r) ∧ Aside0 (kq ≤ k) ∧ Aside0 (Kd.N k26 26 wc w.heap.size (fun _ => True) v1 x1_0) ∧ Aside0 (Below w.heap.size w wc))
 case first =>
  have H := HC1.out
  clear HC1
  obtain ⟨y101, hy101⟩ : ∃ y_ : List (Stmt), y_ = (([(⟨4, (⟨#[120]⟩ : ByteArray), (⟨#[]⟩ : ByteArray), (⟨#[]⟩ : ByteArray), (⟨#[]⟩ : ByteArray), 0, 0, 0⟩ : Stmt), (⟨9, (⟨#[]⟩ : ByteArray), (⟨#[]⟩ : ByteArray), (⟨#[]⟩ : ByteArray), (⟨#[]⟩ : ByteArray), 0, 0, 0⟩ : Stmt)] : List (Stmt))) := ⟨_, rfl⟩
  replace H : ((facts_Of.f k y101).bind fun t104 => (lambrequinlaw21_shown.j0 k t104)) = some r := by first | (rw [hy101]; with_reducible exact H) | (have H2_ := (Option.bind_some _ _).symm.trans H; rw [hy101]; with_reducible exact H2_) | (have H2_ := (Option.bind_some _ _).symm.trans H; with_reducible exact H2_) | with_reducible exact H | (rw [hy101]; exact H) | exact H
  have Ny101 := am hy101
  clear hy101
  replace H := Option.bind_eq_some_iff.mp H
  obtain ⟨t104, A20, H⟩ := H
  replace H : (lambrequinlaw21_shown.j0 k t104) = some r := H
  have A2 := am A20
  clear A20
  have H' := am H
  clear H
  go_wp2_with (first | ((with_reducible refine gate_dst (N := 4) rfl ?_); (try (refine gate_guard (by rfl) ?_; dsimp only)); refine Kd.R_lit k34 _ 34 ?hg (N := 4) ?hd (xs := ([(⟨4, (⟨#[120]⟩ : ByteArray), (⟨#[]⟩ : ByteArray), (⟨#[]⟩ : ByteArray), (⟨#[]⟩ : ByteArray), 0, 0, 0⟩ : Stmt), (⟨9, (⟨#[]⟩ : ByteArray), (⟨#[]⟩ : ByteArray), (⟨#[]⟩ : ByteArray), (⟨#[]⟩ : ByteArray), 0, 0, 0⟩ : Stmt)] : List (Stmt))) (inner := [.int .i64 4, .string (⟨#[120]⟩ : ByteArray), .string (⟨#[]⟩ : ByteArray), .string (⟨#[]⟩ : ByteArray), .string (⟨#[]⟩ : ByteArray), .int .i64 0, .int .i64 0, .int .i64 0, .int .i64 9, .string (⟨#[]⟩ : ByteArray), .string (⟨#[]⟩ : ByteArray), .string (⟨#[]⟩ : ByteArray), .string (⟨#[]⟩ : ByteArray), .int .i64 0, .int .i64 0, .int .i64 0]) (ok := fun _ => True) (okp := fun _ => True) ?hr ?hp (fun _ hk => hk) trivial (Below.refl _ _) (Nat.le_refl _) (by simp) ?_; (case hd => rfl); (case hg => rfl); (case hr => first | (go_simp; done) | (go_simp; rfl)); (case hp => exact (Reps.c8 (show Kd.M k34 _ _ _ (⟨4, (⟨#[120]⟩ : ByteArray), (⟨#[]⟩ : ByteArray), (⟨#[]⟩ : ByteArray), (⟨#[]⟩ : ByteArray), 0, 0, 0⟩ : Stmt) [.int .i64 4, .string (⟨#[120]⟩ : ByteArray), .string (⟨#[]⟩ : ByteArray), .string (⟨#[]⟩ : ByteArray), .string (⟨#[]⟩ : ByteArray), .int .i64 0, .int .i64 0, .int .i64 0] from (k34_mkM _ _ _ (⟨4, (⟨#[120]⟩ : ByteArray), (⟨#[]⟩ : ByteArray), (⟨#[]⟩ : ByteArray), (⟨#[]⟩ : ByteArray), 0, 0, 0⟩ : Stmt) )) (Reps.c8 (show Kd.M k34 _ _ _ (⟨9, (⟨#[]⟩ : ByteArray), (⟨#[]⟩ : ByteArray), (⟨#[]⟩ : ByteArray), (⟨#[]⟩ : ByteArray), 0, 0, 0⟩ : Stmt) [.int .i64 9, .string (⟨#[]⟩ : ByteArray), .string (⟨#[]⟩ : ByteArray), .string (⟨#[]⟩ : ByteArray), .string (⟨#[]⟩ : ByteArray), .int .i64 0, .int .i64 0, .int .i64 0] from (k34_mkM _ _ _ (⟨9, (⟨#[]⟩ : ByteArray), (⟨#[]⟩ : ByteArray), (⟨#[]⟩ : ByteArray), (⟨#[]⟩ : ByteArray), 0, 0, 0⟩ : Stmt) )) (Reps.none _ _)))); intro v102 w3 ho4 hb hg_ hnew_; clear hg_ hnew_; (first | rw [← Ny101.out] at ho4 | (simp only [Int.reduceToNat] at ho4; rw [← Ny101.out] at ho4)); have HO103 := am (Kd.R_lower ho4 (below_size (pL HB.out))); replace HB := am (bs_ HB.out hb); clear hb ho4; obtain ⟨Ao5, co5, eo5⟩ := Kd.R_slice HO103.out; subst eo5) | ((with_reducible refine gate_callee (f := 6) rfl ?_); refine goesL_ (some 5) rfl rfl Tryz.func6 (by kernel_rfl) rfl #[.slice Ao5 y101.length co5] rfl gl_ ?_; (with_reducible refine (facts_Of.calls k _ _ y101 t104 _ ?side1 ?side2 A2.out).mono ?_); (case side1 => repeat (first | exact (Kd.R_reads' HO103.out).2.2 | (with_reducible refine Kd.C_alloc ?_ _) | (with_reducible refine Kd.C_drewN ?_ _) | (with_reducible refine Kd.C_drew ?_))); (case side2 => exact (Kd.R_reads' HO103.out).2.1); rintro e w6 ⟨v105, rfl, ho0, hb⟩; refine ⟨_, rfl, ?_⟩; have HO106 := am (Kd.N_lower (Kd.N_mono (ok' := fun k_ => some k_ ≠ (.slice Ao5 y101.length co5 : Value).ownBlock) ho0 (fun k_ hk_ => (Kd.fresh' (Kd.R_lt (pR HO103.out)) k_ hk_))) (below_size (pL HB.out))); replace HO103 := am (Rb_ HO103.out hb); replace HB := am (bs_ HB.out hb); (try clear hb); (try clear hb2); (try clear hk); (try clear hi); (try clear ho0)))
  go_meet
  case rel => exact ⟨_, (t104), H', ⟨by first | omega | exact Nat.le_refl _⟩, ⟨by (with_reducible repeat (first | apply Kd.N_alloc | apply Kd.N_drewN | apply Kd.N_drew)); exact Kd.N_mono HO106.out (fun _ hk => trivial)⟩, ⟨pL HB.out⟩⟩
 case rest =>
  clear HC1
  try clear p2
  try clear c4
  try clear c6
  obtain ⟨kq, x1_0, HA, HJ0, HO_1, HB⟩ := hcut
  cases kq with
  | zero => exact absurd HA.out (by simp [lambrequinlaw21_shown.j0])
  | succ kj0 =>
   have H := HA.out
   clear HA
   simp only [lambrequinlaw21_shown.j0] at H
   by_cases c7 : (x1_0.length : Int) = 5
   rotate_left
   ·rw [if_neg c7] at H
    have c7b0 : ((x1_0.length : Int) == 5) = false := beq_eq_false_iff_ne.mpr c7
    have c7b1 : ((x1_0.length : Int) != 5) = true := bne_iff_ne.mpr c7
    obtain rfl := Option.some.inj H
    obtain ⟨Ao61, co61, eo61⟩ := Kd.N_slice HO_1.out
    subst eo61
    go_wp2
    go_ret
    exact ⟨er_, pL HB.out⟩
   rw [if_pos c7] at H
   have c7b0 : ((x1_0.length : Int) == 5) = true := beq_iff_eq.mpr c7
   have c7b1 : ((x1_0.length : Int) != 5) = false := bne_eq_false_iff_eq.mpr c7
   clear c7
   by_cases c8 : 0 < (x1_0.length : Int)
   rotate_left
   ·rw [if_neg c8] at H
    exact absurd H (by simp)
   rw [if_pos c8] at H
   have c8b0 : decide (0 < (x1_0.length : Int)) = true := decide_eq_true c8
   have c8b1 : decide (0 < x1_0.length) = true := decide_eq_true (by omega)
   clear c8
   by_cases c9 : ((rd_T26 x1_0 0).pred).toList = ([100, 101, 102] : List UInt8)
   rotate_left
   ·rw [if_neg c9] at H
    have c9b0 : (((rd_T26 x1_0 0).pred).toList == ([100, 101, 102] : List UInt8)) = false := beq_eq_false_iff_ne.mpr c9
    have c9b1 : (((rd_T26 x1_0 0).pred).toList != ([100, 101, 102] : List UInt8)) = true := bne_iff_ne.mpr c9
    obtain rfl := Option.some.inj H
    obtain ⟨Ao60, co60, eo60⟩ := Kd.N_slice HO_1.out
    subst eo60
    have p107 : 0 ≤ (0 : Int) := (by omega)
    have q107 : 0 < (x1_0.length : Int) := dt_
    obtain ⟨ad107, A107_1, c107_1, e107, hx107_0, hx107_1, hl107_1, hi107_1⟩ := at_T26 (Kd.N_reads' HO_1.out).2.2 0 p107 q107
    cases e107
    obtain ⟨ce107, hce107, hMe107, hcc107⟩ := Kd.N_get HO_1.out z26 0 p107 (by first | exact q107 | exact dt_ | (have e_ := (Kd.N_reads' HO_1.out).1; omega))
    obtain ⟨ua107_1, uc107_1, rfl, ul107_1, ge107_1⟩ := k26_openF hMe107
    have hv107_1 := hcc107 1 _ rfl
    rw [add_field _ _ 1 (by omega)] at hv107_1
    replace hv107_1 := Option.some.inj (hv107_1.symm.trans hx107_1)
    injection hv107_1 with hva_ hvn_ hvc_
    rw [hva_] at ge107_1
    rw [hvc_] at ul107_1
    have HL107_1 := am (show Kd.V k36 36 _ w.heap.size _ _ ((rd_T26 x1_0 0).args) from Kd.V_mk ul107_1 ge107_1)
    clear hva_ hvn_ hvc_ ge107_1 ul107_1
    clear hcc107 hce107
    have qi107 : (0 < x1_0.length) = True := eq_true (by omega)
    (try rw [show ((0 : Int)).toNat = 0 from rfl] at hx107_0)
    (try rw [show 0 * 2 = 0 from rfl] at hx107_0)
    (try rw [Addr.add_zero'] at hx107_0)
    (try rw [show ((0 : Int)).toNat = 0 from rfl] at hx107_1)
    (try rw [show 0 * 2 = 0 from rfl] at hx107_1)
    (try rw [Addr.add_zero'] at hx107_1)
    have HR107_1 := am hi107_1
    have HC107_1 := am hl107_1
    clear hi107_1 hl107_1
    replace p107 := eq_true p107
    replace q107 := eq_true q107
    go_wp2
    go_ret
    exact ⟨er_, pL HB.out⟩
   rw [if_pos c9] at H
   have c9b0 : (((rd_T26 x1_0 0).pred).toList == ([100, 101, 102] : List UInt8)) = true := beq_iff_eq.mpr c9
   have c9b1 : (((rd_T26 x1_0 0).pred).toList != ([100, 101, 102] : List UInt8)) = false := bne_eq_false_iff_eq.mpr c9
   clear c9
   replace H := Option.bind_eq_some_iff.mp H
   obtain ⟨⟨t108, t109, t110⟩, A100, H⟩ := H
   replace H : ((lambrequinlaw21_num.f 1).bind fun bt111 => ((facts_Has.f x1_0 (⟨#[110, 101, 120, 116]⟩ : ByteArray) (([(⟨t108, t109, t110⟩ : Val), (⟨bt111.1, bt111.2.1, bt111.2.2⟩ : Val)] : List (Val)))).bind fun t117 => (if t117 = true then ((lambrequinlaw21_num.f 0).bind fun bt118 => ((lambrequinlaw21_sym.f (⟨#[120]⟩ : ByteArray)).bind fun bt121 => ((facts_Has.f x1_0 (⟨#[115, 111, 117, 114, 99, 101]⟩ : ByteArray) (([(⟨bt118.1, bt118.2.1, bt118.2.2⟩ : Val), (⟨bt121.1, bt121.2.1, bt121.2.2⟩ : Val)] : List (Val)))).bind fun t127 => (if t127 = true then ((lambrequinlaw21_num.f 1).bind fun bt128 => ((lambrequinlaw21_num.f 0).bind fun bt131 => ((facts_Has.f x1_0 (⟨#[110, 101, 120, 116]⟩ : ByteArray) (([(⟨bt128.1, bt128.2.1, bt128.2.2⟩ : Val), (⟨bt131.1, bt131.2.1, bt131.2.2⟩ : Val)] : List (Val)))).bind fun t137 => (some (!t137))))) else (some false))))) else (some false)))) = some r := H
   have A10 := am A100
   clear A100
   replace H := Option.bind_eq_some_iff.mp H
   obtain ⟨⟨t111, t112, t113⟩, A110, H⟩ := H
   replace H : ((facts_Has.f x1_0 (⟨#[110, 101, 120, 116]⟩ : ByteArray) (([(⟨t108, t109, t110⟩ : Val), (⟨t111, t112, t113⟩ : Val)] : List (Val)))).bind fun t117 => (if t117 = true then ((lambrequinlaw21_num.f 0).bind fun bt118 => ((lambrequinlaw21_sym.f (⟨#[120]⟩ : ByteArray)).bind fun bt121 => ((facts_Has.f x1_0 (⟨#[115, 111, 117, 114, 99, 101]⟩ : ByteArray) (([(⟨bt118.1, bt118.2.1, bt118.2.2⟩ : Val), (⟨bt121.1, bt121.2.1, bt121.2.2⟩ : Val)] : List (Val)))).bind fun t127 => (if t127 = true then ((lambrequinlaw21_num.f 1).bind fun bt128 => ((lambrequinlaw21_num.f 0).bind fun bt131 => ((facts_Has.f x1_0 (⟨#[110, 101, 120, 116]⟩ : ByteArray) (([(⟨bt128.1, bt128.2.1, bt128.2.2⟩ : Val), (⟨bt131.1, bt131.2.1, bt131.2.2⟩ : Val)] : List (Val)))).bind fun t137 => (some (!t137))))) else (some false))))) else (some false))) = some r := H
   have A11 := am A110
   clear A110
   obtain ⟨y114, hy114⟩ : ∃ y_ : List (Val), y_ = (([(⟨t108, t109, t110⟩ : Val), (⟨t111, t112, t113⟩ : Val)] : List (Val))) := ⟨_, rfl⟩
   replace H : ((facts_Has.f x1_0 (⟨#[110, 101, 120, 116]⟩ : ByteArray) y114).bind fun t117 => (if t117 = true then ((lambrequinlaw21_num.f 0).bind fun bt118 => ((lambrequinlaw21_sym.f (⟨#[120]⟩ : ByteArray)).bind fun bt121 => ((facts_Has.f x1_0 (⟨#[115, 111, 117, 114, 99, 101]⟩ : ByteArray) (([(⟨bt118.1, bt118.2.1, bt118.2.2⟩ : Val), (⟨bt121.1, bt121.2.1, bt121.2.2⟩ : Val)] : List (Val)))).bind fun t127 => (if t127 = true then ((lambrequinlaw21_num.f 1).bind fun bt128 => ((lambrequinlaw21_num.f 0).bind fun bt131 => ((facts_Has.f x1_0 (⟨#[110, 101, 120, 116]⟩ : ByteArray) (([(⟨bt128.1, bt128.2.1, bt128.2.2⟩ : Val), (⟨bt131.1, bt131.2.1, bt131.2.2⟩ : Val)] : List (Val)))).bind fun t137 => (some (!t137))))) else (some false))))) else (some false))) = some r := by first | (rw [hy114]; with_reducible exact H) | (have H2_ := (Option.bind_some _ _).symm.trans H; rw [hy114]; with_reducible exact H2_) | (have H2_ := (Option.bind_some _ _).symm.trans H; with_reducible exact H2_) | with_reducible exact H | (rw [hy114]; exact H) | exact H
   have Ny114 := am hy114
   clear hy114
   replace H := Option.bind_eq_some_iff.mp H
   obtain ⟨t117, A120, H⟩ := H
   replace H : (if t117 = true then ((lambrequinlaw21_num.f 0).bind fun bt118 => ((lambrequinlaw21_sym.f (⟨#[120]⟩ : ByteArray)).bind fun bt121 => ((facts_Has.f x1_0 (⟨#[115, 111, 117, 114, 99, 101]⟩ : ByteArray) (([(⟨bt118.1, bt118.2.1, bt118.2.2⟩ : Val), (⟨bt121.1, bt121.2.1, bt121.2.2⟩ : Val)] : List (Val)))).bind fun t127 => (if t127 = true then ((lambrequinlaw21_num.f 1).bind fun bt128 => ((lambrequinlaw21_num.f 0).bind fun bt131 => ((facts_Has.f x1_0 (⟨#[110, 101, 120, 116]⟩ : ByteArray) (([(⟨bt128.1, bt128.2.1, bt128.2.2⟩ : Val), (⟨bt131.1, bt131.2.1, bt131.2.2⟩ : Val)] : List (Val)))).bind fun t137 => (some (!t137))))) else (some false))))) else (some false)) = some r := H
   have A12 := am A120
   clear A120
   by_cases c13 : t117 = true
   rotate_left
   ·replace c13 := Bool.eq_false_iff.mpr c13
    subst c13
    have H1 : (some false) = some r := by rw [if_neg (show ¬ (false = true) by decide)] at H; exact H
    clear H
    have H := H1
    clear H1
    obtain rfl := Option.some.inj H
    obtain ⟨Ao53, co53, eo53⟩ := Kd.N_slice HO_1.out
    subst eo53
    have p107 : 0 ≤ (0 : Int) := (by omega)
    have q107 : 0 < (x1_0.length : Int) := dt_
    obtain ⟨ad107, A107_1, c107_1, e107, hx107_0, hx107_1, hl107_1, hi107_1⟩ := at_T26 (Kd.N_reads' HO_1.out).2.2 0 p107 q107
    cases e107
    obtain ⟨ce107, hce107, hMe107, hcc107⟩ := Kd.N_get HO_1.out z26 0 p107 (by first | exact q107 | exact dt_ | (have e_ := (Kd.N_reads' HO_1.out).1; omega))
    obtain ⟨ua107_1, uc107_1, rfl, ul107_1, ge107_1⟩ := k26_openF hMe107
    have hv107_1 := hcc107 1 _ rfl
    rw [add_field _ _ 1 (by omega)] at hv107_1
    replace hv107_1 := Option.some.inj (hv107_1.symm.trans hx107_1)
    injection hv107_1 with hva_ hvn_ hvc_
    rw [hva_] at ge107_1
    rw [hvc_] at ul107_1
    have HL107_1 := am (show Kd.V k36 36 _ w.heap.size _ _ ((rd_T26 x1_0 0).args) from Kd.V_mk ul107_1 ge107_1)
    clear hva_ hvn_ hvc_ ge107_1 ul107_1
    clear hcc107 hce107
    have qi107 : (0 < x1_0.length) = True := eq_true (by omega)
    (try rw [show ((0 : Int)).toNat = 0 from rfl] at hx107_0)
    (try rw [show 0 * 2 = 0 from rfl] at hx107_0)
    (try rw [Addr.add_zero'] at hx107_0)
    (try rw [show ((0 : Int)).toNat = 0 from rfl] at hx107_1)
    (try rw [show 0 * 2 = 0 from rfl] at hx107_1)
    (try rw [Addr.add_zero'] at hx107_1)
    have HR107_1 := am hi107_1
    have HC107_1 := am hl107_1
    clear hi107_1 hl107_1
    replace p107 := eq_true p107
    replace q107 := eq_true q107
    go_wp2_with (first | (go_at_call 10; (with_reducible refine (lambrequinlaw21_num.calls 0 t108 t109 t110 _ A10.out).mono ?_); rintro e w54 ⟨rfl, hb⟩; (try clear A10); replace HO_1 := am (Kd.N_below (by (with_reducible repeat (first | apply Kd.N_alloc | apply Kd.N_drewN | apply Kd.N_drew)); exact HO_1.out) hb); replace HL107_1 := am (Kd.V_below (pV HL107_1.out) hb); replace HR107_1 := am (Kd.C_below (by repeat (first | (with_reducible exact HR107_1.out) | (with_reducible refine Kd.C_alloc ?_ _) | (with_reducible refine Kd.C_drewN ?_ _) | (with_reducible refine Kd.C_drew ?_) | exact HR107_1.out)) hb); replace HB := am (bs_ HB.out hb); (try clear hb); (try clear hb2); (try clear hk); (try clear hi)) | (go_at_call 10; (with_reducible refine (lambrequinlaw21_num.calls 1 t111 t112 t113 _ A11.out).mono ?_); rintro e w55 ⟨rfl, hb⟩; (try clear A11); replace HO_1 := am (Kd.N_below (by (with_reducible repeat (first | apply Kd.N_alloc | apply Kd.N_drewN | apply Kd.N_drew)); exact HO_1.out) hb); replace HL107_1 := am (Kd.V_below (pV HL107_1.out) hb); replace HR107_1 := am (Kd.C_below (by repeat (first | (with_reducible exact HR107_1.out) | (with_reducible refine Kd.C_alloc ?_ _) | (with_reducible refine Kd.C_drewN ?_ _) | (with_reducible refine Kd.C_drew ?_) | exact HR107_1.out)) hb); replace HB := am (bs_ HB.out hb); (try clear hb); (try clear hb2); (try clear hk); (try clear hi)) | ((with_reducible refine gate_dst (N := 20) rfl ?_); (try (refine gate_guard (by rfl) ?_; dsimp only)); refine Kd.R_lit k36 _ 36 ?hg (N := 20) ?hd (xs := ([(⟨t108, t109, t110⟩ : Val), (⟨t111, t112, t113⟩ : Val)] : List (Val))) (inner := [.bool t108, .string t109, .int .i64 t110, .bool t111, .string t112, .int .i64 t113]) (ok := fun _ => True) (okp := fun _ => True) ?hr ?hp (fun _ hk => hk) trivial (Below.refl _ _) (Nat.le_refl _) (by simp) ?_; (case hd => rfl); (case hg => rfl); (case hr => first | (go_simp; done) | (go_simp; rfl)); (case hp => exact (Reps.c3 (show Kd.M k36 _ _ _ (⟨t108, t109, t110⟩ : Val) [.bool t108, .string t109, .int .i64 t110] from (k36_mkM _ _ _ (⟨t108, t109, t110⟩ : Val) )) (Reps.c3 (show Kd.M k36 _ _ _ (⟨t111, t112, t113⟩ : Val) [.bool t111, .string t112, .int .i64 t113] from (k36_mkM _ _ _ (⟨t111, t112, t113⟩ : Val) )) (Reps.none _ _)))); intro v115 w56 ho57 hb hg_ hnew_; clear hg_ hnew_; (first | rw [← Ny114.out] at ho57 | (simp only [Int.reduceToNat] at ho57; rw [← Ny114.out] at ho57)); replace HO_1 := am (Kd.N_elder' (by (with_reducible repeat (first | apply Kd.N_alloc | apply Kd.N_drewN | apply Kd.N_drew)); exact HO_1.out) (Kd.R_base ho57) hb); replace HL107_1 := am (Kd.V_elder' (pV HL107_1.out) (Kd.R_base ho57) hb); have HO116 := am (Kd.R_lower ho57 (below_size (pL HB.out))); replace HR107_1 := am (Kd.C_below (by repeat (first | (with_reducible exact HR107_1.out) | (with_reducible refine Kd.C_alloc ?_ _) | (with_reducible refine Kd.C_drewN ?_ _) | (with_reducible refine Kd.C_drew ?_) | exact HR107_1.out)) hb); replace HB := am (bs_ HB.out hb); clear hb ho57; obtain ⟨Ao58, co58, eo58⟩ := Kd.R_slice HO116.out; subst eo58) | (go_at_call 8; (with_reducible refine (facts_Has.calls _ _ x1_0 (⟨#[110, 101, 120, 116]⟩ : ByteArray) _ _ y114 false _ ?side1 ?side2 ?side3 ?side4 A12.out).mono ?_); (case side1 => repeat (first | exact (Kd.N_reads' HO_1.out).2.2 | (with_reducible refine Kd.C_alloc ?_ _) | (with_reducible refine Kd.C_drewN ?_ _) | (with_reducible refine Kd.C_drew ?_))); (case side2 => exact (Kd.N_reads' HO_1.out).2.1); (case side3 => repeat (first | exact (Kd.R_reads' HO116.out).2.2 | (with_reducible refine Kd.C_alloc ?_ _) | (with_reducible refine Kd.C_drewN ?_ _) | (with_reducible refine Kd.C_drew ?_))); (case side4 => exact (Kd.R_reads' HO116.out).2.1); rintro e w59 ⟨rfl, hb⟩; (try clear A12); replace HO_1 := am (Kd.N_below (by (with_reducible repeat (first | apply Kd.N_alloc | apply Kd.N_drewN | apply Kd.N_drew)); exact HO_1.out) hb); replace HL107_1 := am (Kd.V_below (pV HL107_1.out) hb); replace HO116 := am (Rb_ HO116.out hb); replace HR107_1 := am (Kd.C_below (by repeat (first | (with_reducible exact HR107_1.out) | (with_reducible refine Kd.C_alloc ?_ _) | (with_reducible refine Kd.C_drewN ?_ _) | (with_reducible refine Kd.C_drew ?_) | exact HR107_1.out)) hb); replace HB := am (bs_ HB.out hb); (try clear hb); (try clear hb2); (try clear hk); (try clear hi)))
    go_ret
    exact ⟨er_, pL HB.out⟩
   subst c13
   have H1 : ((lambrequinlaw21_num.f 0).bind fun bt118 => ((lambrequinlaw21_sym.f (⟨#[120]⟩ : ByteArray)).bind fun bt121 => ((facts_Has.f x1_0 (⟨#[115, 111, 117, 114, 99, 101]⟩ : ByteArray) (([(⟨bt118.1, bt118.2.1, bt118.2.2⟩ : Val), (⟨bt121.1, bt121.2.1, bt121.2.2⟩ : Val)] : List (Val)))).bind fun t127 => (if t127 = true then ((lambrequinlaw21_num.f 1).bind fun bt128 => ((lambrequinlaw21_num.f 0).bind fun bt131 => ((facts_Has.f x1_0 (⟨#[110, 101, 120, 116]⟩ : ByteArray) (([(⟨bt128.1, bt128.2.1, bt128.2.2⟩ : Val), (⟨bt131.1, bt131.2.1, bt131.2.2⟩ : Val)] : List (Val)))).bind fun t137 => (some (!t137))))) else (some false))))) = some r := by rw [if_pos rfl] at H; exact H
   clear H
   have H := H1
   clear H1
   replace H := Option.bind_eq_some_iff.mp H
   obtain ⟨⟨t118, t119, t120⟩, A140, H⟩ := H
   replace H : ((lambrequinlaw21_sym.f (⟨#[120]⟩ : ByteArray)).bind fun bt121 => ((facts_Has.f x1_0 (⟨#[115, 111, 117, 114, 99, 101]⟩ : ByteArray) (([(⟨t118, t119, t120⟩ : Val), (⟨bt121.1, bt121.2.1, bt121.2.2⟩ : Val)] : List (Val)))).bind fun t127 => (if t127 = true then ((lambrequinlaw21_num.f 1).bind fun bt128 => ((lambrequinlaw21_num.f 0).bind fun bt131 => ((facts_Has.f x1_0 (⟨#[110, 101, 120, 116]⟩ : ByteArray) (([(⟨bt128.1, bt128.2.1, bt128.2.2⟩ : Val), (⟨bt131.1, bt131.2.1, bt131.2.2⟩ : Val)] : List (Val)))).bind fun t137 => (some (!t137))))) else (some false)))) = some r := H
   have A14 := am A140
   clear A140
   replace H := Option.bind_eq_some_iff.mp H
   obtain ⟨⟨t121, t122, t123⟩, A150, H⟩ := H
   replace H : ((facts_Has.f x1_0 (⟨#[115, 111, 117, 114, 99, 101]⟩ : ByteArray) (([(⟨t118, t119, t120⟩ : Val), (⟨t121, t122, t123⟩ : Val)] : List (Val)))).bind fun t127 => (if t127 = true then ((lambrequinlaw21_num.f 1).bind fun bt128 => ((lambrequinlaw21_num.f 0).bind fun bt131 => ((facts_Has.f x1_0 (⟨#[110, 101, 120, 116]⟩ : ByteArray) (([(⟨bt128.1, bt128.2.1, bt128.2.2⟩ : Val), (⟨bt131.1, bt131.2.1, bt131.2.2⟩ : Val)] : List (Val)))).bind fun t137 => (some (!t137))))) else (some false))) = some r := H
   have A15 := am A150
   clear A150
   obtain ⟨y124, hy124⟩ : ∃ y_ : List (Val), y_ = (([(⟨t118, t119, t120⟩ : Val), (⟨t121, t122, t123⟩ : Val)] : List (Val))) := ⟨_, rfl⟩
   replace H : ((facts_Has.f x1_0 (⟨#[115, 111, 117, 114, 99, 101]⟩ : ByteArray) y124).bind fun t127 => (if t127 = true then ((lambrequinlaw21_num.f 1).bind fun bt128 => ((lambrequinlaw21_num.f 0).bind fun bt131 => ((facts_Has.f x1_0 (⟨#[110, 101, 120, 116]⟩ : ByteArray) (([(⟨bt128.1, bt128.2.1, bt128.2.2⟩ : Val), (⟨bt131.1, bt131.2.1, bt131.2.2⟩ : Val)] : List (Val)))).bind fun t137 => (some (!t137))))) else (some false))) = some r := by first | (rw [hy124]; with_reducible exact H) | (have H2_ := (Option.bind_some _ _).symm.trans H; rw [hy124]; with_reducible exact H2_) | (have H2_ := (Option.bind_some _ _).symm.trans H; with_reducible exact H2_) | with_reducible exact H | (rw [hy124]; exact H) | exact H
   have Ny124 := am hy124
   clear hy124
   replace H := Option.bind_eq_some_iff.mp H
   obtain ⟨t127, A160, H⟩ := H
   replace H : (if t127 = true then ((lambrequinlaw21_num.f 1).bind fun bt128 => ((lambrequinlaw21_num.f 0).bind fun bt131 => ((facts_Has.f x1_0 (⟨#[110, 101, 120, 116]⟩ : ByteArray) (([(⟨bt128.1, bt128.2.1, bt128.2.2⟩ : Val), (⟨bt131.1, bt131.2.1, bt131.2.2⟩ : Val)] : List (Val)))).bind fun t137 => (some (!t137))))) else (some false)) = some r := H
   have A16 := am A160
   clear A160
   by_cases c17 : t127 = true
   ·subst c17
    have H1 : ((lambrequinlaw21_num.f 1).bind fun bt128 => ((lambrequinlaw21_num.f 0).bind fun bt131 => ((facts_Has.f x1_0 (⟨#[110, 101, 120, 116]⟩ : ByteArray) (([(⟨bt128.1, bt128.2.1, bt128.2.2⟩ : Val), (⟨bt131.1, bt131.2.1, bt131.2.2⟩ : Val)] : List (Val)))).bind fun t137 => (some (!t137))))) = some r := by rw [if_pos rfl] at H; exact H
    clear H
    have H := H1
    clear H1
    replace H := Option.bind_eq_some_iff.mp H
    obtain ⟨⟨t128, t129, t130⟩, A180, H⟩ := H
    replace H : ((lambrequinlaw21_num.f 0).bind fun bt131 => ((facts_Has.f x1_0 (⟨#[110, 101, 120, 116]⟩ : ByteArray) (([(⟨t128, t129, t130⟩ : Val), (⟨bt131.1, bt131.2.1, bt131.2.2⟩ : Val)] : List (Val)))).bind fun t137 => (some (!t137)))) = some r := H
    have A18 := am A180
    clear A180
    replace H := Option.bind_eq_some_iff.mp H
    obtain ⟨⟨t131, t132, t133⟩, A190, H⟩ := H
    replace H : ((facts_Has.f x1_0 (⟨#[110, 101, 120, 116]⟩ : ByteArray) (([(⟨t128, t129, t130⟩ : Val), (⟨t131, t132, t133⟩ : Val)] : List (Val)))).bind fun t137 => (some (!t137))) = some r := H
    have A19 := am A190
    clear A190
    obtain ⟨y134, hy134⟩ : ∃ y_ : List (Val), y_ = (([(⟨t128, t129, t130⟩ : Val), (⟨t131, t132, t133⟩ : Val)] : List (Val))) := ⟨_, rfl⟩
    replace H : ((facts_Has.f x1_0 (⟨#[110, 101, 120, 116]⟩ : ByteArray) y134).bind fun t137 => (some (!t137))) = some r := by first | (rw [hy134]; with_reducible exact H) | (have H2_ := (Option.bind_some _ _).symm.trans H; rw [hy134]; with_reducible exact H2_) | (have H2_ := (Option.bind_some _ _).symm.trans H; with_reducible exact H2_) | with_reducible exact H | (rw [hy134]; exact H) | exact H
    have Ny134 := am hy134
    clear hy134
    replace H := Option.bind_eq_some_iff.mp H
    obtain ⟨t137, A200, H⟩ := H
    replace H : (some (!t137)) = some r := H
    have A20 := am A200
    clear A200
    obtain rfl := Option.some.inj H
    obtain ⟨Ao21, co21, eo21⟩ := Kd.N_slice HO_1.out
    subst eo21
    have p107 : 0 ≤ (0 : Int) := (by omega)
    have q107 : 0 < (x1_0.length : Int) := dt_
    obtain ⟨ad107, A107_1, c107_1, e107, hx107_0, hx107_1, hl107_1, hi107_1⟩ := at_T26 (Kd.N_reads' HO_1.out).2.2 0 p107 q107
    cases e107
    obtain ⟨ce107, hce107, hMe107, hcc107⟩ := Kd.N_get HO_1.out z26 0 p107 (by first | exact q107 | exact dt_ | (have e_ := (Kd.N_reads' HO_1.out).1; omega))
    obtain ⟨ua107_1, uc107_1, rfl, ul107_1, ge107_1⟩ := k26_openF hMe107
    have hv107_1 := hcc107 1 _ rfl
    rw [add_field _ _ 1 (by omega)] at hv107_1
    replace hv107_1 := Option.some.inj (hv107_1.symm.trans hx107_1)
    injection hv107_1 with hva_ hvn_ hvc_
    rw [hva_] at ge107_1
    rw [hvc_] at ul107_1
    have HL107_1 := am (show Kd.V k36 36 _ w.heap.size _ _ ((rd_T26 x1_0 0).args) from Kd.V_mk ul107_1 ge107_1)
    clear hva_ hvn_ hvc_ ge107_1 ul107_1
    clear hcc107 hce107
    have qi107 : (0 < x1_0.length) = True := eq_true (by omega)
    (try rw [show ((0 : Int)).toNat = 0 from rfl] at hx107_0)
    (try rw [show 0 * 2 = 0 from rfl] at hx107_0)
    (try rw [Addr.add_zero'] at hx107_0)
    (try rw [show ((0 : Int)).toNat = 0 from rfl] at hx107_1)
    (try rw [show 0 * 2 = 0 from rfl] at hx107_1)
    (try rw [Addr.add_zero'] at hx107_1)
    have HR107_1 := am hi107_1
    have HC107_1 := am hl107_1
    clear hi107_1 hl107_1
    replace p107 := eq_true p107
    replace q107 := eq_true q107
    go_wp2_with (first | (go_at_call 10; (with_reducible refine (lambrequinlaw21_num.calls 0 t108 t109 t110 _ A10.out).mono ?_); rintro e w22 ⟨rfl, hb⟩; (try clear A10); replace HO_1 := am (Kd.N_below (by (with_reducible repeat (first | apply Kd.N_alloc | apply Kd.N_drewN | apply Kd.N_drew)); exact HO_1.out) hb); replace HL107_1 := am (Kd.V_below (pV HL107_1.out) hb); replace HR107_1 := am (Kd.C_below (by repeat (first | (with_reducible exact HR107_1.out) | (with_reducible refine Kd.C_alloc ?_ _) | (with_reducible refine Kd.C_drewN ?_ _) | (with_reducible refine Kd.C_drew ?_) | exact HR107_1.out)) hb); replace HB := am (bs_ HB.out hb); (try clear hb); (try clear hb2); (try clear hk); (try clear hi)) | (go_at_call 10; (with_reducible refine (lambrequinlaw21_num.calls 1 t111 t112 t113 _ A11.out).mono ?_); rintro e w23 ⟨rfl, hb⟩; (try clear A11); replace HO_1 := am (Kd.N_below (by (with_reducible repeat (first | apply Kd.N_alloc | apply Kd.N_drewN | apply Kd.N_drew)); exact HO_1.out) hb); replace HL107_1 := am (Kd.V_below (pV HL107_1.out) hb); replace HR107_1 := am (Kd.C_below (by repeat (first | (with_reducible exact HR107_1.out) | (with_reducible refine Kd.C_alloc ?_ _) | (with_reducible refine Kd.C_drewN ?_ _) | (with_reducible refine Kd.C_drew ?_) | exact HR107_1.out)) hb); replace HB := am (bs_ HB.out hb); (try clear hb); (try clear hb2); (try clear hk); (try clear hi)) | ((with_reducible refine gate_dst (N := 20) rfl ?_); (try (refine gate_guard (by rfl) ?_; dsimp only)); refine Kd.R_lit k36 _ 36 ?hg (N := 20) ?hd (xs := ([(⟨t108, t109, t110⟩ : Val), (⟨t111, t112, t113⟩ : Val)] : List (Val))) (inner := [.bool t108, .string t109, .int .i64 t110, .bool t111, .string t112, .int .i64 t113]) (ok := fun _ => True) (okp := fun _ => True) ?hr ?hp (fun _ hk => hk) trivial (Below.refl _ _) (Nat.le_refl _) (by simp) ?_; (case hd => rfl); (case hg => rfl); (case hr => first | (go_simp; done) | (go_simp; rfl)); (case hp => exact (Reps.c3 (show Kd.M k36 _ _ _ (⟨t108, t109, t110⟩ : Val) [.bool t108, .string t109, .int .i64 t110] from (k36_mkM _ _ _ (⟨t108, t109, t110⟩ : Val) )) (Reps.c3 (show Kd.M k36 _ _ _ (⟨t111, t112, t113⟩ : Val) [.bool t111, .string t112, .int .i64 t113] from (k36_mkM _ _ _ (⟨t111, t112, t113⟩ : Val) )) (Reps.none _ _)))); intro v115 w24 ho25 hb hg_ hnew_; clear hg_ hnew_; (first | rw [← Ny114.out] at ho25 | (simp only [Int.reduceToNat] at ho25; rw [← Ny114.out] at ho25)); replace HO_1 := am (Kd.N_elder' (by (with_reducible repeat (first | apply Kd.N_alloc | apply Kd.N_drewN | apply Kd.N_drew)); exact HO_1.out) (Kd.R_base ho25) hb); replace HL107_1 := am (Kd.V_elder' (pV HL107_1.out) (Kd.R_base ho25) hb); have HO116 := am (Kd.R_lower ho25 (below_size (pL HB.out))); replace HR107_1 := am (Kd.C_below (by repeat (first | (with_reducible exact HR107_1.out) | (with_reducible refine Kd.C_alloc ?_ _) | (with_reducible refine Kd.C_drewN ?_ _) | (with_reducible refine Kd.C_drew ?_) | exact HR107_1.out)) hb); replace HB := am (bs_ HB.out hb); clear hb ho25; obtain ⟨Ao26, co26, eo26⟩ := Kd.R_slice HO116.out; subst eo26) | (go_at_call 8; (with_reducible refine (facts_Has.calls _ _ x1_0 (⟨#[110, 101, 120, 116]⟩ : ByteArray) _ _ y114 true _ ?side1 ?side2 ?side3 ?side4 A12.out).mono ?_); (case side1 => repeat (first | exact (Kd.N_reads' HO_1.out).2.2 | (with_reducible refine Kd.C_alloc ?_ _) | (with_reducible refine Kd.C_drewN ?_ _) | (with_reducible refine Kd.C_drew ?_))); (case side2 => exact (Kd.N_reads' HO_1.out).2.1); (case side3 => repeat (first | exact (Kd.R_reads' HO116.out).2.2 | (with_reducible refine Kd.C_alloc ?_ _) | (with_reducible refine Kd.C_drewN ?_ _) | (with_reducible refine Kd.C_drew ?_))); (case side4 => exact (Kd.R_reads' HO116.out).2.1); rintro e w27 ⟨rfl, hb⟩; (try clear A12); replace HO_1 := am (Kd.N_below (by (with_reducible repeat (first | apply Kd.N_alloc | apply Kd.N_drewN | apply Kd.N_drew)); exact HO_1.out) hb); replace HL107_1 := am (Kd.V_below (pV HL107_1.out) hb); replace HO116 := am (Rb_ HO116.out hb); replace HR107_1 := am (Kd.C_below (by repeat (first | (with_reducible exact HR107_1.out) | (with_reducible refine Kd.C_alloc ?_ _) | (with_reducible refine Kd.C_drewN ?_ _) | (with_reducible refine Kd.C_drew ?_) | exact HR107_1.out)) hb); replace HB := am (bs_ HB.out hb); (try clear hb); (try clear hb2); (try clear hk); (try clear hi)) | (go_at_call 10; (with_reducible refine (lambrequinlaw21_num.calls 0 t118 t119 t120 _ A14.out).mono ?_); rintro e w28 ⟨rfl, hb⟩; (try clear A14); replace HO_1 := am (Kd.N_below (by (with_reducible repeat (first | apply Kd.N_alloc | apply Kd.N_drewN | apply Kd.N_drew)); exact HO_1.out) hb); replace HL107_1 := am (Kd.V_below (pV HL107_1.out) hb); replace HO116 := am (Rb_ HO116.out hb); replace HR107_1 := am (Kd.C_below (by repeat (first | (with_reducible exact HR107_1.out) | (with_reducible refine Kd.C_alloc ?_ _) | (with_reducible refine Kd.C_drewN ?_ _) | (with_reducible refine Kd.C_drew ?_) | exact HR107_1.out)) hb); replace HB := am (bs_ HB.out hb); (try clear hb); (try clear hb2); (try clear hk); (try clear hi)) | (go_at_call 11; (with_reducible refine (lambrequinlaw21_sym.calls (⟨#[120]⟩ : ByteArray) t121 t122 t123 _ A15.out).mono ?_); rintro e w29 ⟨rfl, hb⟩; (try clear A15); replace HO_1 := am (Kd.N_below (by (with_reducible repeat (first | apply Kd.N_alloc | apply Kd.N_drewN | apply Kd.N_drew)); exact HO_1.out) hb); replace HL107_1 := am (Kd.V_below (pV HL107_1.out) hb); replace HO116 := am (Rb_ HO116.out hb); replace HR107_1 := am (Kd.C_below (by repeat (first | (with_reducible exact HR107_1.out) | (with_reducible refine Kd.C_alloc ?_ _) | (with_reducible refine Kd.C_drewN ?_ _) | (with_reducible refine Kd.C_drew ?_) | exact HR107_1.out)) hb); replace HB := am (bs_ HB.out hb); (try clear hb); (try clear hb2); (try clear hk); (try clear hi)) | ((with_reducible refine gate_dst (N := 27) rfl ?_); (try (refine gate_guard (by rfl) ?_; dsimp only)); refine Kd.R_lit k36 _ 36 ?hg (N := 27) ?hd (xs := ([(⟨t118, t119, t120⟩ : Val), (⟨t121, t122, t123⟩ : Val)] : List (Val))) (inner := [.bool t118, .string t119, .int .i64 t120, .bool t121, .string t122, .int .i64 t123]) (ok := fun _ => True) (okp := fun _ => True) ?hr ?hp (fun _ hk => hk) trivial (Below.refl _ _) (Nat.le_refl _) (by simp) ?_; (case hd => rfl); (case hg => rfl); (case hr => first | (go_simp; done) | (go_simp; rfl)); (case hp => exact (Reps.c3 (show Kd.M k36 _ _ _ (⟨t118, t119, t120⟩ : Val) [.bool t118, .string t119, .int .i64 t120] from (k36_mkM _ _ _ (⟨t118, t119, t120⟩ : Val) )) (Reps.c3 (show Kd.M k36 _ _ _ (⟨t121, t122, t123⟩ : Val) [.bool t121, .string t122, .int .i64 t123] from (k36_mkM _ _ _ (⟨t121, t122, t123⟩ : Val) )) (Reps.none _ _)))); intro v125 w30 ho31 hb hg_ hnew_; clear hg_ hnew_; (first | rw [← Ny124.out] at ho31 | (simp only [Int.reduceToNat] at ho31; rw [← Ny124.out] at ho31)); replace HO_1 := am (Kd.N_elder' (by (with_reducible repeat (first | apply Kd.N_alloc | apply Kd.N_drewN | apply Kd.N_drew)); exact HO_1.out) (Kd.R_base ho31) hb); replace HL107_1 := am (Kd.V_elder' (pV HL107_1.out) (Kd.R_base ho31) hb); have HO126 := am (Kd.R_lower (Kd.R_new' ho31 (Kd.R_lt (pR HO116.out))) (below_size (pL HB.out))); replace HO116 := am (Kd.R_elder' (pR HO116.out) (Kd.R_base ho31) hb); replace HR107_1 := am (Kd.C_below (by repeat (first | (with_reducible exact HR107_1.out) | (with_reducible refine Kd.C_alloc ?_ _) | (with_reducible refine Kd.C_drewN ?_ _) | (with_reducible refine Kd.C_drew ?_) | exact HR107_1.out)) hb); replace HB := am (bs_ HB.out hb); clear hb ho31; obtain ⟨Ao32, co32, eo32⟩ := Kd.R_slice HO126.out; subst eo32) | (go_at_call 8; (with_reducible refine (facts_Has.calls _ _ x1_0 (⟨#[115, 111, 117, 114, 99, 101]⟩ : ByteArray) _ _ y124 true _ ?side1 ?side2 ?side3 ?side4 A16.out).mono ?_); (case side1 => repeat (first | exact (Kd.N_reads' HO_1.out).2.2 | (with_reducible refine Kd.C_alloc ?_ _) | (with_reducible refine Kd.C_drewN ?_ _) | (with_reducible refine Kd.C_drew ?_))); (case side2 => exact (Kd.N_reads' HO_1.out).2.1); (case side3 => repeat (first | exact (Kd.R_reads' HO126.out).2.2 | (with_reducible refine Kd.C_alloc ?_ _) | (with_reducible refine Kd.C_drewN ?_ _) | (with_reducible refine Kd.C_drew ?_))); (case side4 => exact (Kd.R_reads' HO126.out).2.1); rintro e w33 ⟨rfl, hb⟩; (try clear A16); replace HO_1 := am (Kd.N_below (by (with_reducible repeat (first | apply Kd.N_alloc | apply Kd.N_drewN | apply Kd.N_drew)); exact HO_1.out) hb); replace HL107_1 := am (Kd.V_below (pV HL107_1.out) hb); replace HO116 := am (Rb_ HO116.out hb); replace HO126 := am (Rb_ HO126.out hb); replace HR107_1 := am (Kd.C_below (by repeat (first | (with_reducible exact HR107_1.out) | (with_reducible refine Kd.C_alloc ?_ _) | (with_reducible refine Kd.C_drewN ?_ _) | (with_reducible refine Kd.C_drew ?_) | exact HR107_1.out)) hb); replace HB := am (bs_ HB.out hb); (try clear hb); (try clear hb2); (try clear hk); (try clear hi)) | (go_at_call 10; (with_reducible refine (lambrequinlaw21_num.calls 1 t128 t129 t130 _ A18.out).mono ?_); rintro e w34 ⟨rfl, hb⟩; (try clear A18); replace HO_1 := am (Kd.N_below (by (with_reducible repeat (first | apply Kd.N_alloc | apply Kd.N_drewN | apply Kd.N_drew)); exact HO_1.out) hb); replace HL107_1 := am (Kd.V_below (pV HL107_1.out) hb); replace HO116 := am (Rb_ HO116.out hb); replace HO126 := am (Rb_ HO126.out hb); replace HR107_1 := am (Kd.C_below (by repeat (first | (with_reducible exact HR107_1.out) | (with_reducible refine Kd.C_alloc ?_ _) | (with_reducible refine Kd.C_drewN ?_ _) | (with_reducible refine Kd.C_drew ?_) | exact HR107_1.out)) hb); replace HB := am (bs_ HB.out hb); (try clear hb); (try clear hb2); (try clear hk); (try clear hi)) | (go_at_call 10; (with_reducible refine (lambrequinlaw21_num.calls 0 t131 t132 t133 _ A19.out).mono ?_); rintro e w35 ⟨rfl, hb⟩; (try clear A19); replace HO_1 := am (Kd.N_below (by (with_reducible repeat (first | apply Kd.N_alloc | apply Kd.N_drewN | apply Kd.N_drew)); exact HO_1.out) hb); replace HL107_1 := am (Kd.V_below (pV HL107_1.out) hb); replace HO116 := am (Rb_ HO116.out hb); replace HO126 := am (Rb_ HO126.out hb); replace HR107_1 := am (Kd.C_below (by repeat (first | (with_reducible exact HR107_1.out) | (with_reducible refine Kd.C_alloc ?_ _) | (with_reducible refine Kd.C_drewN ?_ _) | (with_reducible refine Kd.C_drew ?_) | exact HR107_1.out)) hb); replace HB := am (bs_ HB.out hb); (try clear hb); (try clear hb2); (try clear hk); (try clear hi)) | ((with_reducible refine gate_dst (N := 34) rfl ?_); (try (refine gate_guard (by rfl) ?_; dsimp only)); refine Kd.R_lit k36 _ 36 ?hg (N := 34) ?hd (xs := ([(⟨t128, t129, t130⟩ : Val), (⟨t131, t132, t133⟩ : Val)] : List (Val))) (inner := [.bool t128, .string t129, .int .i64 t130, .bool t131, .string t132, .int .i64 t133]) (ok := fun _ => True) (okp := fun _ => True) ?hr ?hp (fun _ hk => hk) trivial (Below.refl _ _) (Nat.le_refl _) (by simp) ?_; (case hd => rfl); (case hg => rfl); (case hr => first | (go_simp; done) | (go_simp; rfl)); (case hp => exact (Reps.c3 (show Kd.M k36 _ _ _ (⟨t128, t129, t130⟩ : Val) [.bool t128, .string t129, .int .i64 t130] from (k36_mkM _ _ _ (⟨t128, t129, t130⟩ : Val) )) (Reps.c3 (show Kd.M k36 _ _ _ (⟨t131, t132, t133⟩ : Val) [.bool t131, .string t132, .int .i64 t133] from (k36_mkM _ _ _ (⟨t131, t132, t133⟩ : Val) )) (Reps.none _ _)))); intro v135 w36 ho37 hb hg_ hnew_; clear hg_ hnew_; (first | rw [← Ny134.out] at ho37 | (simp only [Int.reduceToNat] at ho37; rw [← Ny134.out] at ho37)); replace HO_1 := am (Kd.N_elder' (by (with_reducible repeat (first | apply Kd.N_alloc | apply Kd.N_drewN | apply Kd.N_drew)); exact HO_1.out) (Kd.R_base ho37) hb); replace HL107_1 := am (Kd.V_elder' (pV HL107_1.out) (Kd.R_base ho37) hb); have HO136 := am (Kd.R_lower (Kd.R_new' (Kd.R_new' ho37 (Kd.R_lt (pR HO116.out))) (Kd.R_lt (pR HO126.out))) (below_size (pL HB.out))); replace HO116 := am (Kd.R_elder' (pR HO116.out) (Kd.R_base ho37) hb); replace HO126 := am (Kd.R_elder' (pR HO126.out) (Kd.R_base ho37) hb); replace HR107_1 := am (Kd.C_below (by repeat (first | (with_reducible exact HR107_1.out) | (with_reducible refine Kd.C_alloc ?_ _) | (with_reducible refine Kd.C_drewN ?_ _) | (with_reducible refine Kd.C_drew ?_) | exact HR107_1.out)) hb); replace HB := am (bs_ HB.out hb); clear hb ho37; obtain ⟨Ao38, co38, eo38⟩ := Kd.R_slice HO136.out; subst eo38) | (go_at_call 8; (with_reducible refine (facts_Has.calls _ _ x1_0 (⟨#[110, 101, 120, 116]⟩ : ByteArray) _ _ y134 t137 _ ?side1 ?side2 ?side3 ?side4 A20.out).mono ?_); (case side1 => repeat (first | exact (Kd.N_reads' HO_1.out).2.2 | (with_reducible refine Kd.C_alloc ?_ _) | (with_reducible refine Kd.C_drewN ?_ _) | (with_reducible refine Kd.C_drew ?_))); (case side2 => exact (Kd.N_reads' HO_1.out).2.1); (case side3 => repeat (first | exact (Kd.R_reads' HO136.out).2.2 | (with_reducible refine Kd.C_alloc ?_ _) | (with_reducible refine Kd.C_drewN ?_ _) | (with_reducible refine Kd.C_drew ?_))); (case side4 => exact (Kd.R_reads' HO136.out).2.1); rintro e w39 ⟨rfl, hb⟩; (try clear A20); replace HO_1 := am (Kd.N_below (by (with_reducible repeat (first | apply Kd.N_alloc | apply Kd.N_drewN | apply Kd.N_drew)); exact HO_1.out) hb); replace HL107_1 := am (Kd.V_below (pV HL107_1.out) hb); replace HO116 := am (Rb_ HO116.out hb); replace HO126 := am (Rb_ HO126.out hb); replace HO136 := am (Rb_ HO136.out hb); replace HR107_1 := am (Kd.C_below (by repeat (first | (with_reducible exact HR107_1.out) | (with_reducible refine Kd.C_alloc ?_ _) | (with_reducible refine Kd.C_drewN ?_ _) | (with_reducible refine Kd.C_drew ?_) | exact HR107_1.out)) hb); replace HB := am (bs_ HB.out hb); (try clear hb); (try clear hb2); (try clear hk); (try clear hi)))
    go_ret
    exact ⟨er_, pL HB.out⟩
   replace c17 := Bool.eq_false_iff.mpr c17
   subst c17
   have H1 : (some false) = some r := by rw [if_neg (show ¬ (false = true) by decide)] at H; exact H
   clear H
   have H := H1
   clear H1
   obtain rfl := Option.some.inj H
   obtain ⟨Ao40, co40, eo40⟩ := Kd.N_slice HO_1.out
   subst eo40
   have p107 : 0 ≤ (0 : Int) := (by omega)
   have q107 : 0 < (x1_0.length : Int) := dt_
   obtain ⟨ad107, A107_1, c107_1, e107, hx107_0, hx107_1, hl107_1, hi107_1⟩ := at_T26 (Kd.N_reads' HO_1.out).2.2 0 p107 q107
   cases e107
   obtain ⟨ce107, hce107, hMe107, hcc107⟩ := Kd.N_get HO_1.out z26 0 p107 (by first | exact q107 | exact dt_ | (have e_ := (Kd.N_reads' HO_1.out).1; omega))
   obtain ⟨ua107_1, uc107_1, rfl, ul107_1, ge107_1⟩ := k26_openF hMe107
   have hv107_1 := hcc107 1 _ rfl
   rw [add_field _ _ 1 (by omega)] at hv107_1
   replace hv107_1 := Option.some.inj (hv107_1.symm.trans hx107_1)
   injection hv107_1 with hva_ hvn_ hvc_
   rw [hva_] at ge107_1
   rw [hvc_] at ul107_1
   have HL107_1 := am (show Kd.V k36 36 _ w.heap.size _ _ ((rd_T26 x1_0 0).args) from Kd.V_mk ul107_1 ge107_1)
   clear hva_ hvn_ hvc_ ge107_1 ul107_1
   clear hcc107 hce107
   have qi107 : (0 < x1_0.length) = True := eq_true (by omega)
   (try rw [show ((0 : Int)).toNat = 0 from rfl] at hx107_0)
   (try rw [show 0 * 2 = 0 from rfl] at hx107_0)
   (try rw [Addr.add_zero'] at hx107_0)
   (try rw [show ((0 : Int)).toNat = 0 from rfl] at hx107_1)
   (try rw [show 0 * 2 = 0 from rfl] at hx107_1)
   (try rw [Addr.add_zero'] at hx107_1)
   have HR107_1 := am hi107_1
   have HC107_1 := am hl107_1
   clear hi107_1 hl107_1
   replace p107 := eq_true p107
   replace q107 := eq_true q107
   go_wp2_with (first | (go_at_call 10; (with_reducible refine (lambrequinlaw21_num.calls 0 t108 t109 t110 _ A10.out).mono ?_); rintro e w41 ⟨rfl, hb⟩; (try clear A10); replace HO_1 := am (Kd.N_below (by (with_reducible repeat (first | apply Kd.N_alloc | apply Kd.N_drewN | apply Kd.N_drew)); exact HO_1.out) hb); replace HL107_1 := am (Kd.V_below (pV HL107_1.out) hb); replace HR107_1 := am (Kd.C_below (by repeat (first | (with_reducible exact HR107_1.out) | (with_reducible refine Kd.C_alloc ?_ _) | (with_reducible refine Kd.C_drewN ?_ _) | (with_reducible refine Kd.C_drew ?_) | exact HR107_1.out)) hb); replace HB := am (bs_ HB.out hb); (try clear hb); (try clear hb2); (try clear hk); (try clear hi)) | (go_at_call 10; (with_reducible refine (lambrequinlaw21_num.calls 1 t111 t112 t113 _ A11.out).mono ?_); rintro e w42 ⟨rfl, hb⟩; (try clear A11); replace HO_1 := am (Kd.N_below (by (with_reducible repeat (first | apply Kd.N_alloc | apply Kd.N_drewN | apply Kd.N_drew)); exact HO_1.out) hb); replace HL107_1 := am (Kd.V_below (pV HL107_1.out) hb); replace HR107_1 := am (Kd.C_below (by repeat (first | (with_reducible exact HR107_1.out) | (with_reducible refine Kd.C_alloc ?_ _) | (with_reducible refine Kd.C_drewN ?_ _) | (with_reducible refine Kd.C_drew ?_) | exact HR107_1.out)) hb); replace HB := am (bs_ HB.out hb); (try clear hb); (try clear hb2); (try clear hk); (try clear hi)) | ((with_reducible refine gate_dst (N := 20) rfl ?_); (try (refine gate_guard (by rfl) ?_; dsimp only)); refine Kd.R_lit k36 _ 36 ?hg (N := 20) ?hd (xs := ([(⟨t108, t109, t110⟩ : Val), (⟨t111, t112, t113⟩ : Val)] : List (Val))) (inner := [.bool t108, .string t109, .int .i64 t110, .bool t111, .string t112, .int .i64 t113]) (ok := fun _ => True) (okp := fun _ => True) ?hr ?hp (fun _ hk => hk) trivial (Below.refl _ _) (Nat.le_refl _) (by simp) ?_; (case hd => rfl); (case hg => rfl); (case hr => first | (go_simp; done) | (go_simp; rfl)); (case hp => exact (Reps.c3 (show Kd.M k36 _ _ _ (⟨t108, t109, t110⟩ : Val) [.bool t108, .string t109, .int .i64 t110] from (k36_mkM _ _ _ (⟨t108, t109, t110⟩ : Val) )) (Reps.c3 (show Kd.M k36 _ _ _ (⟨t111, t112, t113⟩ : Val) [.bool t111, .string t112, .int .i64 t113] from (k36_mkM _ _ _ (⟨t111, t112, t113⟩ : Val) )) (Reps.none _ _)))); intro v115 w43 ho44 hb hg_ hnew_; clear hg_ hnew_; (first | rw [← Ny114.out] at ho44 | (simp only [Int.reduceToNat] at ho44; rw [← Ny114.out] at ho44)); replace HO_1 := am (Kd.N_elder' (by (with_reducible repeat (first | apply Kd.N_alloc | apply Kd.N_drewN | apply Kd.N_drew)); exact HO_1.out) (Kd.R_base ho44) hb); replace HL107_1 := am (Kd.V_elder' (pV HL107_1.out) (Kd.R_base ho44) hb); have HO116 := am (Kd.R_lower ho44 (below_size (pL HB.out))); replace HR107_1 := am (Kd.C_below (by repeat (first | (with_reducible exact HR107_1.out) | (with_reducible refine Kd.C_alloc ?_ _) | (with_reducible refine Kd.C_drewN ?_ _) | (with_reducible refine Kd.C_drew ?_) | exact HR107_1.out)) hb); replace HB := am (bs_ HB.out hb); clear hb ho44; obtain ⟨Ao45, co45, eo45⟩ := Kd.R_slice HO116.out; subst eo45) | (go_at_call 8; (with_reducible refine (facts_Has.calls _ _ x1_0 (⟨#[110, 101, 120, 116]⟩ : ByteArray) _ _ y114 true _ ?side1 ?side2 ?side3 ?side4 A12.out).mono ?_); (case side1 => repeat (first | exact (Kd.N_reads' HO_1.out).2.2 | (with_reducible refine Kd.C_alloc ?_ _) | (with_reducible refine Kd.C_drewN ?_ _) | (with_reducible refine Kd.C_drew ?_))); (case side2 => exact (Kd.N_reads' HO_1.out).2.1); (case side3 => repeat (first | exact (Kd.R_reads' HO116.out).2.2 | (with_reducible refine Kd.C_alloc ?_ _) | (with_reducible refine Kd.C_drewN ?_ _) | (with_reducible refine Kd.C_drew ?_))); (case side4 => exact (Kd.R_reads' HO116.out).2.1); rintro e w46 ⟨rfl, hb⟩; (try clear A12); replace HO_1 := am (Kd.N_below (by (with_reducible repeat (first | apply Kd.N_alloc | apply Kd.N_drewN | apply Kd.N_drew)); exact HO_1.out) hb); replace HL107_1 := am (Kd.V_below (pV HL107_1.out) hb); replace HO116 := am (Rb_ HO116.out hb); replace HR107_1 := am (Kd.C_below (by repeat (first | (with_reducible exact HR107_1.out) | (with_reducible refine Kd.C_alloc ?_ _) | (with_reducible refine Kd.C_drewN ?_ _) | (with_reducible refine Kd.C_drew ?_) | exact HR107_1.out)) hb); replace HB := am (bs_ HB.out hb); (try clear hb); (try clear hb2); (try clear hk); (try clear hi)) | (go_at_call 10; (with_reducible refine (lambrequinlaw21_num.calls 0 t118 t119 t120 _ A14.out).mono ?_); rintro e w47 ⟨rfl, hb⟩; (try clear A14); replace HO_1 := am (Kd.N_below (by (with_reducible repeat (first | apply Kd.N_alloc | apply Kd.N_drewN | apply Kd.N_drew)); exact HO_1.out) hb); replace HL107_1 := am (Kd.V_below (pV HL107_1.out) hb); replace HO116 := am (Rb_ HO116.out hb); replace HR107_1 := am (Kd.C_below (by repeat (first | (with_reducible exact HR107_1.out) | (with_reducible refine Kd.C_alloc ?_ _) | (with_reducible refine Kd.C_drewN ?_ _) | (with_reducible refine Kd.C_drew ?_) | exact HR107_1.out)) hb); replace HB := am (bs_ HB.out hb); (try clear hb); (try clear hb2); (try clear hk); (try clear hi)) | (go_at_call 11; (with_reducible refine (lambrequinlaw21_sym.calls (⟨#[120]⟩ : ByteArray) t121 t122 t123 _ A15.out).mono ?_); rintro e w48 ⟨rfl, hb⟩; (try clear A15); replace HO_1 := am (Kd.N_below (by (with_reducible repeat (first | apply Kd.N_alloc | apply Kd.N_drewN | apply Kd.N_drew)); exact HO_1.out) hb); replace HL107_1 := am (Kd.V_below (pV HL107_1.out) hb); replace HO116 := am (Rb_ HO116.out hb); replace HR107_1 := am (Kd.C_below (by repeat (first | (with_reducible exact HR107_1.out) | (with_reducible refine Kd.C_alloc ?_ _) | (with_reducible refine Kd.C_drewN ?_ _) | (with_reducible refine Kd.C_drew ?_) | exact HR107_1.out)) hb); replace HB := am (bs_ HB.out hb); (try clear hb); (try clear hb2); (try clear hk); (try clear hi)) | ((with_reducible refine gate_dst (N := 27) rfl ?_); (try (refine gate_guard (by rfl) ?_; dsimp only)); refine Kd.R_lit k36 _ 36 ?hg (N := 27) ?hd (xs := ([(⟨t118, t119, t120⟩ : Val), (⟨t121, t122, t123⟩ : Val)] : List (Val))) (inner := [.bool t118, .string t119, .int .i64 t120, .bool t121, .string t122, .int .i64 t123]) (ok := fun _ => True) (okp := fun _ => True) ?hr ?hp (fun _ hk => hk) trivial (Below.refl _ _) (Nat.le_refl _) (by simp) ?_; (case hd => rfl); (case hg => rfl); (case hr => first | (go_simp; done) | (go_simp; rfl)); (case hp => exact (Reps.c3 (show Kd.M k36 _ _ _ (⟨t118, t119, t120⟩ : Val) [.bool t118, .string t119, .int .i64 t120] from (k36_mkM _ _ _ (⟨t118, t119, t120⟩ : Val) )) (Reps.c3 (show Kd.M k36 _ _ _ (⟨t121, t122, t123⟩ : Val) [.bool t121, .string t122, .int .i64 t123] from (k36_mkM _ _ _ (⟨t121, t122, t123⟩ : Val) )) (Reps.none _ _)))); intro v125 w49 ho50 hb hg_ hnew_; clear hg_ hnew_; (first | rw [← Ny124.out] at ho50 | (simp only [Int.reduceToNat] at ho50; rw [← Ny124.out] at ho50)); replace HO_1 := am (Kd.N_elder' (by (with_reducible repeat (first | apply Kd.N_alloc | apply Kd.N_drewN | apply Kd.N_drew)); exact HO_1.out) (Kd.R_base ho50) hb); replace HL107_1 := am (Kd.V_elder' (pV HL107_1.out) (Kd.R_base ho50) hb); have HO126 := am (Kd.R_lower (Kd.R_new' ho50 (Kd.R_lt (pR HO116.out))) (below_size (pL HB.out))); replace HO116 := am (Kd.R_elder' (pR HO116.out) (Kd.R_base ho50) hb); replace HR107_1 := am (Kd.C_below (by repeat (first | (with_reducible exact HR107_1.out) | (with_reducible refine Kd.C_alloc ?_ _) | (with_reducible refine Kd.C_drewN ?_ _) | (with_reducible refine Kd.C_drew ?_) | exact HR107_1.out)) hb); replace HB := am (bs_ HB.out hb); clear hb ho50; obtain ⟨Ao51, co51, eo51⟩ := Kd.R_slice HO126.out; subst eo51) | (go_at_call 8; (with_reducible refine (facts_Has.calls _ _ x1_0 (⟨#[115, 111, 117, 114, 99, 101]⟩ : ByteArray) _ _ y124 false _ ?side1 ?side2 ?side3 ?side4 A16.out).mono ?_); (case side1 => repeat (first | exact (Kd.N_reads' HO_1.out).2.2 | (with_reducible refine Kd.C_alloc ?_ _) | (with_reducible refine Kd.C_drewN ?_ _) | (with_reducible refine Kd.C_drew ?_))); (case side2 => exact (Kd.N_reads' HO_1.out).2.1); (case side3 => repeat (first | exact (Kd.R_reads' HO126.out).2.2 | (with_reducible refine Kd.C_alloc ?_ _) | (with_reducible refine Kd.C_drewN ?_ _) | (with_reducible refine Kd.C_drew ?_))); (case side4 => exact (Kd.R_reads' HO126.out).2.1); rintro e w52 ⟨rfl, hb⟩; (try clear A16); replace HO_1 := am (Kd.N_below (by (with_reducible repeat (first | apply Kd.N_alloc | apply Kd.N_drewN | apply Kd.N_drew)); exact HO_1.out) hb); replace HL107_1 := am (Kd.V_below (pV HL107_1.out) hb); replace HO116 := am (Rb_ HO116.out hb); replace HO126 := am (Rb_ HO126.out hb); replace HR107_1 := am (Kd.C_below (by repeat (first | (with_reducible exact HR107_1.out) | (with_reducible refine Kd.C_alloc ?_ _) | (with_reducible refine Kd.C_drewN ?_ _) | (with_reducible refine Kd.C_drew ?_) | exact HR107_1.out)) hb); replace HB := am (bs_ HB.out hb); (try clear hb); (try clear hb2); (try clear hk); (try clear hi)))
   go_ret
   exact ⟨er_, pL HB.out⟩
end Go.Proofs.YtoekfmdcplphmaaGreat.H
/- the document's example holds -/
namespace Go.Proofs.YtoekfmdcplphmaaGreat.H
open Go.RowKit Go.Proofs.YtoekfmdcplphmaaGreatW.PrintWords
theorem HasEx {p : ByteArray} {a : List Val} {b : Bool} (hb : bareF ⟨p, a⟩ = true) (h : b = true ↔ (⟨p, a⟩ : Fact) ∈ factsL ex21) : facts_Has.f exF p a = some b := by
  rw [← ex_of]
  exact HasOf hb h
theorem shown21_ev : Ev (fun k => lambrequinlaw21_shown.f k) true := by
  unfold lambrequinlaw21_shown.f
  refine Ev.bind (a := exF) (ex_of ▸ of_ev ex21 (by decide)) ?_
  try refine Ev.step (fun k => by rw [lambrequinlaw21_shown.j0]) ?_
  refine Ev.pos (by decide) ?_
  refine Ev.pos (by decide) ?_
  refine Ev.pos (by rw [ByteArray.toList_eq]; rfl) ?_
  refine Ev.pure rfl ?_
  refine Ev.pure rfl ?_
  refine Ev.pure (HasEx (b := true) rfl (by rw [ex_facts]; simp)) ?_
  refine Ev.pos rfl ?_
  refine Ev.pure rfl ?_
  refine Ev.pure rfl ?_
  refine Ev.pure (HasEx (b := true) rfl (by rw [ex_facts]; simp)) ?_
  refine Ev.pos rfl ?_
  refine Ev.pure rfl ?_
  refine Ev.pure rfl ?_
  refine Ev.pure (HasEx (b := false) rfl (by rw [ex_facts]; simp)) ?_
  exact Ev.now _
end Go.Proofs.YtoekfmdcplphmaaGreat.H
namespace Go.Proofs.YtoekfmdcplphmaaGreat.H
open Go.RowKit Go.Proofs.YtoekfmdcplphmaaGreatW.PrintWords Go.Proofs.YtoekfmdcplphmaaGreatW.PrintLast Go.Proofs.YtoekfmdcplphmaaGreatW.PrintMore
attribute [local go_sem] max2_int min2_int max_two min_two max_three min_three max_four min_four
mutual
def lambrequinref01_texts.l0 : Nat → ByteArray → ByteArray → Int → Option (Int)
 | 0, _, _, _ => none
 | k + 1, x0, x1, x5 => if x5 < (x0.size : Int) then (lambrequinref01_texts.j1 k x0 x1 x5 (decide (x5 < (x1.size : Int)))) else (lambrequinref01_texts.j1 k x0 x1 x5 false)
def lambrequinref01_texts.j1 : Nat → ByteArray → ByteArray → Int → Bool → Option (Int)
 | 0, _, _, _, _ => none
 | k + 1, x0, x1, x5, x15 => if x15 = true then (if 0 ≤ x5 then (if x5 < (x0.size : Int) then (if x5 < (x1.size : Int) then (if (bt x0 x5) < (bt x1 x5) then (some (-1)) else (if (bt x0 x5) > (bt x1 x5) then (some 1) else (lambrequinref01_texts.l0 k x0 x1 (wrap64 (x5 + 1))))) else (none)) else (none)) else (none)) else (if (x0.size : Int) < (x1.size : Int) then (some (-1)) else (if (x0.size : Int) > (x1.size : Int) then (some 1) else (some 0)))
end
def lambrequinref01_texts.f (k : Nat) (a0 : ByteArray) (a1 : ByteArray) : Option (Int) := lambrequinref01_texts.l0 k a0 a1 0
theorem lambrequinref01_texts.mono_l : ∀ k, (∀ y0 y1 y2, LeO (lambrequinref01_texts.l0 k y0 y1 y2) (lambrequinref01_texts.l0 (k + 1) y0 y1 y2)) ∧ (∀ y0 y1 y2 y3, LeO (lambrequinref01_texts.j1 k y0 y1 y2 y3) (lambrequinref01_texts.j1 (k + 1) y0 y1 y2 y3))
 | 0 => ⟨fun _ _ _ r h => by simp [lambrequinref01_texts.l0] at h, fun _ _ _ _ r h => by simp [lambrequinref01_texts.j1] at h⟩
 | k + 1 => by
  obtain ⟨ih0, ih1⟩ := lambrequinref01_texts.mono_l k
  refine ⟨?_, ?_⟩
  ·intro y0 y1 y2
   unfold lambrequinref01_texts.l0
   repeat' first
   | (with_reducible exact ih0 _ _ _)
   | (with_reducible exact ih1 _ _ _ _)
   | (with_reducible exact LeO.refl _)
   | (with_reducible exact LeO.none _)
   | (with_reducible refine LeO.ite ?_ ?_)
   | (with_reducible refine LeO.bind ?_ (fun _ => ?_))
   | exact ih0 _ _ _
   | exact ih1 _ _ _ _
   | exact LeO.none _
   | refine LeO.ite ?_ ?_
   | refine LeO.bind ?_ (fun _ => ?_)
  intro y0 y1 y2 y3
  unfold lambrequinref01_texts.j1
  repeat' first
  | (with_reducible exact ih0 _ _ _)
  | (with_reducible exact ih1 _ _ _ _)
  | (with_reducible exact LeO.refl _)
  | (with_reducible exact LeO.none _)
  | (with_reducible refine LeO.ite ?_ ?_)
  | (with_reducible refine LeO.bind ?_ (fun _ => ?_))
  | exact ih0 _ _ _
  | exact ih1 _ _ _ _
  | exact LeO.none _
  | refine LeO.ite ?_ ?_
  | refine LeO.bind ?_ (fun _ => ?_)
theorem lambrequinref01_texts.mono : ∀ a0 a1 k, LeO (lambrequinref01_texts.f k a0 a1) (lambrequinref01_texts.f (k + 1) a0 a1) := by
 intro a0 a1 k
 obtain ⟨ih0, ih1⟩ := lambrequinref01_texts.mono_l k
 unfold lambrequinref01_texts.f
 repeat' first
   | (with_reducible exact ih0 _ _ _)
   | (with_reducible exact ih1 _ _ _ _)
   | (with_reducible exact LeO.refl _)
   | (with_reducible exact LeO.none _)
   | (with_reducible refine LeO.ite ?_ ?_)
   | (with_reducible refine LeO.bind ?_ (fun _ => ?_))
   | exact ih0 _ _ _
   | exact ih1 _ _ _ _
   | exact LeO.none _
   | refine LeO.ite ?_ ?_
   | refine LeO.bind ?_ (fun _ => ?_)
set_option maxHeartbeats 8000000 in
set_option maxRecDepth 100000 in
theorem lambrequinref01_texts.calls (k : Nat) (a0 : ByteArray) (a1 : ByteArray) (r : Int) (w : World) (h : lambrequinref01_texts.f k a0 a1 = some r) :
  Calls Tryz.prog 58 #[.string a0, .string a1] w fun e w' => e = .returned (.int .i64 r) ∧ Drawn0 w w' := by
 have H : (lambrequinref01_texts.l0 k a0 a1 0) = some r := h
 clear h
 have H' := am H
 clear H
 go_enter Tryz.func58, Tryz.ntmps58
 go_wp2
 repeat (go_quiet (fail); try go_wp2)
 go_loopg [5] k (fun kq v5 w' => ∃ (x5_1 : Int), v5 = .int .i64 x5_1 ∧ Aside0 (lambrequinref01_texts.l0 kq a0 a1 x5_1 = some r) ∧ Aside0 (kq ≤ k) ∧ Drawn0 w w')
 case atStart => exact ⟨(0), (by first | rfl | (simp; done) | (simp [*]; done)), H', ⟨Nat.le_refl _⟩, by repeat (first | exact Drawn0.refl _ | apply Drawn0.step)⟩
 case round =>
  clear H'
  try clear p2
  obtain ⟨x5_1, rfl, HA, HK1, ⟨m1, rfl⟩⟩ := hrel
  cases gk with
  | zero => exact absurd HA.out (by simp [lambrequinref01_texts.l0])
  | succ k1 =>
   have H := HA.out
   clear HA
   simp only [lambrequinref01_texts.l0] at H
   have HC3 := am H
   clear H
   go_upto_region 2 with (fail)
   repeat (go_quiet (fail); go_upto_region 2 with (fail))
   go_cut [15] (fun v15 wc => ∃ (kq : Nat) (x15_2 : Bool), v15 = .bool x15_2 ∧ Aside0 (lambrequinref01_texts.j1 kq a0 a1 x5_1 x15_2 = some r) ∧ Aside0 (kq ≤ k1) ∧ Drawn0 w wc)
   case first =>
    have H := HC3.out
    clear HC3
    by_cases c4 : x5_1 < (a0.size : Int)
    ·rw [if_pos c4] at H
     have c4b0 : decide (x5_1 < (a0.size : Int)) = true := decide_eq_true c4
     clear c4
     (first | rw [c4b0] | (simp only [i64_w, i32_w]; rw [c4b0]) | skip)
     have H' := am H
     clear H
     go_wp2
     repeat (go_quiet (fail); try go_wp2)
     go_meet
     case rel => exact ⟨_, (decide (x5_1 < (a1.size : Int))), (by first | rfl | (simp; done) | (simp [*]; done)), H', ⟨by have := HK1.out; first | omega | exact Nat.le_refl _⟩, by repeat (first | exact Drawn0.refl _ | apply Drawn0.step)⟩
    rw [if_neg c4] at H
    have c4b0 : decide (x5_1 < (a0.size : Int)) = false := decide_eq_false c4
    clear c4
    (first | rw [c4b0] | (simp only [i64_w, i32_w]; rw [c4b0]) | skip)
    have H' := am H
    clear H
    go_wp2
    repeat (go_quiet (fail); try go_wp2)
    go_meet
    case rel => exact ⟨_, (false), (by first | rfl | (simp; done) | (simp [*]; done)), H', ⟨by have := HK1.out; first | omega | exact Nat.le_refl _⟩, by repeat (first | exact Drawn0.refl _ | apply Drawn0.step)⟩
   case rest =>
    clear HC3
    try clear p2
    try clear c4
    try clear c4b0
    try clear p2
    obtain ⟨kq, x15_2, rfl, HA, HJ2, ⟨mc2, rfl⟩⟩ := hcut
    cases kq with
    | zero => exact absurd HA.out (by simp [lambrequinref01_texts.j1])
    | succ kj2 =>
     have H := HA.out
     clear HA
     simp only [lambrequinref01_texts.j1] at H
     by_cases c5 : x15_2 = true
     rotate_left
     ·replace c5 := Bool.eq_false_iff.mpr c5
      subst c5
      have H1 : (if (a0.size : Int) < (a1.size : Int) then (some (-1)) else (if (a0.size : Int) > (a1.size : Int) then (some 1) else (some 0))) = some r := by rw [if_neg (show ¬ (false = true) by decide)] at H; exact H
      clear H
      have H := H1
      clear H1
      by_cases c15 : (a0.size : Int) < (a1.size : Int)
      ·rw [if_pos c15] at H
       have c15b0 : decide ((a0.size : Int) < (a1.size : Int)) = true := decide_eq_true c15
       have c15b1 : decide (a0.size < a1.size) = true := decide_eq_true (Int.ofNat_lt.mp c15)
       clear c15
       obtain rfl := Option.some.inj H
       go_wp2
       repeat (go_quiet (fail); try go_wp2)
       go_ret
       exact ⟨by first | rfl | (simp; done) | (simp [*]; done), by repeat (first | exact Drawn0.refl _ | apply Drawn0.step)⟩
      rw [if_neg c15] at H
      have c15b0 : decide ((a0.size : Int) < (a1.size : Int)) = false := decide_eq_false c15
      have c15b1 : decide (a0.size < a1.size) = false := decide_eq_false (fun h => c15 (Int.ofNat_lt.mpr h))
      clear c15
      by_cases c16 : (a0.size : Int) > (a1.size : Int)
      ·rw [if_pos c16] at H
       have c16b0 : decide ((a1.size : Int) < (a0.size : Int)) = true := decide_eq_true c16
       have c16b1 : decide (a1.size < a0.size) = true := decide_eq_true (Int.ofNat_lt.mp c16)
       clear c16
       obtain rfl := Option.some.inj H
       go_wp2
       repeat (go_quiet (fail); try go_wp2)
       go_ret
       exact ⟨by first | rfl | (simp; done) | (simp [*]; done), by repeat (first | exact Drawn0.refl _ | apply Drawn0.step)⟩
      rw [if_neg c16] at H
      have c16b0 : decide ((a1.size : Int) < (a0.size : Int)) = false := decide_eq_false c16
      have c16b1 : decide (a1.size < a0.size) = false := decide_eq_false (fun h => c16 (Int.ofNat_lt.mpr h))
      clear c16
      obtain rfl := Option.some.inj H
      go_wp2
      repeat (go_quiet (fail); try go_wp2)
      go_ret
      exact ⟨by first | rfl | (simp; done) | (simp [*]; done), by repeat (first | exact Drawn0.refl _ | apply Drawn0.step)⟩
     subst c5
     have H1 : (if 0 ≤ x5_1 then (if x5_1 < (a0.size : Int) then (if x5_1 < (a1.size : Int) then (if (bt a0 x5_1) < (bt a1 x5_1) then (some (-1)) else (if (bt a0 x5_1) > (bt a1 x5_1) then (some 1) else (lambrequinref01_texts.l0 kj2 a0 a1 (wrap64 (x5_1 + 1))))) else (none)) else (none)) else (none)) = some r := by rw [if_pos rfl] at H; exact H
     clear H
     have H := H1
     clear H1
     by_cases c6 : 0 ≤ x5_1
     rotate_left
     ·rw [if_neg c6] at H
      exact absurd H (by simp)
     rw [if_pos c6] at H
     have c6b0 : decide (0 ≤ x5_1) = true := decide_eq_true c6
     clear c6
     by_cases c7 : x5_1 < (a0.size : Int)
     rotate_left
     ·rw [if_neg c7] at H
      exact absurd H (by simp)
     rw [if_pos c7] at H
     have c7b0 : decide (x5_1 < (a0.size : Int)) = true := decide_eq_true c7
     clear c7
     by_cases c9 : x5_1 < (a1.size : Int)
     rotate_left
     ·rw [if_neg c9] at H
      exact absurd H (by simp)
     rw [if_pos c9] at H
     have c9b0 : decide (x5_1 < (a1.size : Int)) = true := decide_eq_true c9
     clear c9
     by_cases c11 : (bt a0 x5_1) < (bt a1 x5_1)
     ·rw [if_pos c11] at H
      have c11b0 : decide ((bt a0 x5_1) < (bt a1 x5_1)) = true := decide_eq_true c11
      clear c11
      obtain rfl := Option.some.inj H
      have p8 : 0 ≤ (x5_1 : Int) := of_decide_eq_true (by first | (with_reducible assumption) | assumption)
      have q8 : x5_1 < (a0.size : Int) := of_decide_eq_true (by first | (with_reducible assumption) | assumption)
      have hx8 := bt_at a0 x5_1
      replace p8 := eq_true p8
      replace q8 := eq_true q8
      have p10 : 0 ≤ (x5_1 : Int) := of_decide_eq_true (by first | (with_reducible assumption) | assumption)
      have q10 : x5_1 < (a1.size : Int) := of_decide_eq_true (by first | (with_reducible assumption) | assumption)
      have hx10 := bt_at a1 x5_1
      replace p10 := eq_true p10
      replace q10 := eq_true q10
      go_wp2
      repeat (go_quiet (fail); try go_wp2)
      go_ret
      exact ⟨by first | rfl | (simp; done) | (simp [*]; done), by repeat (first | exact Drawn0.refl _ | apply Drawn0.step)⟩
     rw [if_neg c11] at H
     have c11b0 : decide ((bt a0 x5_1) < (bt a1 x5_1)) = false := decide_eq_false c11
     clear c11
     by_cases c14 : (bt a0 x5_1) > (bt a1 x5_1)
     ·rw [if_pos c14] at H
      have c14b0 : decide ((bt a1 x5_1) < (bt a0 x5_1)) = true := decide_eq_true c14
      clear c14
      obtain rfl := Option.some.inj H
      have p8 : 0 ≤ (x5_1 : Int) := of_decide_eq_true (by first | (with_reducible assumption) | assumption)
      have q8 : x5_1 < (a0.size : Int) := of_decide_eq_true (by first | (with_reducible assumption) | assumption)
      have hx8 := bt_at a0 x5_1
      replace p8 := eq_true p8
      replace q8 := eq_true q8
      have p10 : 0 ≤ (x5_1 : Int) := of_decide_eq_true (by first | (with_reducible assumption) | assumption)
      have q10 : x5_1 < (a1.size : Int) := of_decide_eq_true (by first | (with_reducible assumption) | assumption)
      have hx10 := bt_at a1 x5_1
      replace p10 := eq_true p10
      replace q10 := eq_true q10
      have p12 : 0 ≤ (x5_1 : Int) := of_decide_eq_true (by first | (with_reducible assumption) | assumption)
      have q12 : x5_1 < (a0.size : Int) := of_decide_eq_true (by first | (with_reducible assumption) | assumption)
      have hx12 := bt_at a0 x5_1
      replace p12 := eq_true p12
      replace q12 := eq_true q12
      have p13 : 0 ≤ (x5_1 : Int) := of_decide_eq_true (by first | (with_reducible assumption) | assumption)
      have q13 : x5_1 < (a1.size : Int) := of_decide_eq_true (by first | (with_reducible assumption) | assumption)
      have hx13 := bt_at a1 x5_1
      replace p13 := eq_true p13
      replace q13 := eq_true q13
      go_wp2
      repeat (go_quiet (fail); try go_wp2)
      go_ret
      exact ⟨by first | rfl | (simp; done) | (simp [*]; done), by repeat (first | exact Drawn0.refl _ | apply Drawn0.step)⟩
     rw [if_neg c14] at H
     have c14b0 : decide ((bt a1 x5_1) < (bt a0 x5_1)) = false := decide_eq_false c14
     clear c14
     have H' := am H
     clear H
     have p8 : 0 ≤ (x5_1 : Int) := of_decide_eq_true (by first | (with_reducible assumption) | assumption)
     have q8 : x5_1 < (a0.size : Int) := of_decide_eq_true (by first | (with_reducible assumption) | assumption)
     have hx8 := bt_at a0 x5_1
     replace p8 := eq_true p8
     replace q8 := eq_true q8
     have p10 : 0 ≤ (x5_1 : Int) := of_decide_eq_true (by first | (with_reducible assumption) | assumption)
     have q10 : x5_1 < (a1.size : Int) := of_decide_eq_true (by first | (with_reducible assumption) | assumption)
     have hx10 := bt_at a1 x5_1
     replace p10 := eq_true p10
     replace q10 := eq_true q10
     have p12 : 0 ≤ (x5_1 : Int) := of_decide_eq_true (by first | (with_reducible assumption) | assumption)
     have q12 : x5_1 < (a0.size : Int) := of_decide_eq_true (by first | (with_reducible assumption) | assumption)
     have hx12 := bt_at a0 x5_1
     replace p12 := eq_true p12
     replace q12 := eq_true q12
     have p13 : 0 ≤ (x5_1 : Int) := of_decide_eq_true (by first | (with_reducible assumption) | assumption)
     have q13 : x5_1 < (a1.size : Int) := of_decide_eq_true (by first | (with_reducible assumption) | assumption)
     have hx13 := bt_at a1 x5_1
     replace p13 := eq_true p13
     replace q13 := eq_true q13
     go_wp2
     repeat (go_quiet (fail); try go_wp2)
     go_roundg kj2
     case measure => have := HK1.out; have := HJ2.out; omega
     case rel => exact ⟨(wrap64 (x5_1 + 1)), (by first | rfl | (simp; done) | (simp [*]; done)), H', ⟨by have := HK1.out; have := HJ2.out; omega⟩, by repeat (first | exact Drawn0.refl _ | apply Drawn0.step)⟩
def lambrequinref01_Compare.f (k : Nat) (a0_0 : Bool) (a0_1 : ByteArray) (a0_2 : Int) (a1_0 : Bool) (a1_1 : ByteArray) (a1_2 : Int) : Option (Int) := if (a0_0 != a1_0) = true then (if a1_0 = true then (some (-1)) else (some 1)) else (if a0_0 = true then ((lambrequinref01_texts.f k a0_1 a1_1).bind fun t103 => (some t103)) else (if a0_2 < a1_2 then (some (-1)) else (if a0_2 > a1_2 then (some 1) else (some 0))))
theorem lambrequinref01_Compare.mono : ∀ a0 a1 a2 a3 a4 a5 k, LeO (lambrequinref01_Compare.f k a0 a1 a2 a3 a4 a5) (lambrequinref01_Compare.f (k + 1) a0 a1 a2 a3 a4 a5) := by
 intro a0 a1 a2 a3 a4 a5 k
 unfold lambrequinref01_Compare.f
 repeat' first
   | (with_reducible exact lambrequinref01_texts.mono _ _ _)
   | (with_reducible exact LeO.refl _)
   | (with_reducible exact LeO.none _)
   | (with_reducible refine LeO.ite ?_ ?_)
   | (with_reducible refine LeO.bind ?_ (fun _ => ?_))
   | exact lambrequinref01_texts.mono _ _ _
   | exact LeO.none _
   | refine LeO.ite ?_ ?_
   | refine LeO.bind ?_ (fun _ => ?_)
set_option maxHeartbeats 8000000 in
set_option maxRecDepth 100000 in
theorem lambrequinref01_Compare.calls (k : Nat) (a0_0 : Bool) (a0_1 : ByteArray) (a0_2 : Int) (a1_0 : Bool) (a1_1 : ByteArray) (a1_2 : Int) (r : Int) (w : World) (h : lambrequinref01_Compare.f k a0_0 a0_1 a0_2 a1_0 a1_1 a1_2 = some r) :
  Calls Tryz.prog 44 #[.agg #[.bool a0_0, .string a0_1, .int .i64 a0_2], .agg #[.bool a1_0, .string a1_1, .int .i64 a1_2]] w fun e w' => e = .returned (.int .i64 r) ∧ Below w.heap.size w w' := by
 have hu36 := Tryz.underlying36
 have HB := am (Below.refl w.heap.size w)
 have H : (if (a0_0 != a1_0) = true then (if a1_0 = true then (some (-1)) else (some 1)) else (if a0_0 = true then ((lambrequinref01_texts.f k a0_1 a1_1).bind fun t103 => (some t103)) else (if a0_2 < a1_2 then (some (-1)) else (if a0_2 > a1_2 then (some 1) else (some 0))))) = some r := h
 clear h
 by_cases c3 : (a0_0 != a1_0) = true
 ·rw [if_pos c3] at H
  have c3b0 : (a0_0 != a1_0) = true := c3
  (try (have c3b1 : decide (a0_0 = a1_0) = false := by simpa using c3))
  (try (have c3b2 : (a0_0 == a1_0) = false := by simpa using c3))
  (try (have c3b3 : ¬ (a0_0 = a1_0) := by simpa using c3))
  clear c3
  by_cases c4 : a1_0 = true
  ·subst c4
   have H1 : (some (-1)) = some r := by rw [if_pos rfl] at H; exact H
   clear H
   have H := H1
   clear H1
   obtain rfl := Option.some.inj H
   go_enter Tryz.func44, Tryz.ntmps44
   go_wp2_with (first | ((with_reducible refine gate_dst (N := 2) rfl ?_); refine box_event ?hg (N := 2) ?hd (cs := #[.bool a0_0, .string a0_1, .int .i64 a0_2]) (t := 36) ?hr ?_; (case hd => rfl); (case hg => rfl); (case hr => first | (go_simp; done) | (go_simp; rfl)); intro gb101 hg w5 hbox hb; have BK101 := am (hbox); have GW101 := am (gw_ hg HB.out); have GE101 := GW101; replace HB := am (bs_ HB.out hb); clear hb hbox hg) | ((with_reducible refine gate_dst (N := 3) rfl ?_); refine box_event ?hg (N := 3) ?hd (cs := #[.bool true, .string a1_1, .int .i64 a1_2]) (t := 36) ?hr ?_; (case hd => rfl); (case hg => rfl); (case hr => first | (go_simp; done) | (go_simp; rfl)); intro gb102 hg w6 hbox hb; have BK102 := am (hbox); have GW102 := am (gw_ hg HB.out); have GE102 := GW102; replace HB := am (bs_ HB.out hb); have NB101_102 := am (nb_ hg BK101.out); have NB102_101 := am NB101_102.out.symm; replace BK101 := am (bb_ BK101.out hb); clear hb hbox hg; have hnb7 := NB101_102.out; have hnc7 := NB102_101.out; obtain ⟨hcz8_0, hcz8_1, hcz8_2, hfz8_0, hfz8_1, hfz8_2⟩ := bc3 BK101.out; obtain ⟨hcz9_0, hcz9_1, hcz9_2, hfz9_0, hfz9_1, hfz9_2⟩ := bc3 BK102.out))
   go_ret
   exact ⟨er_, pL HB.out⟩
  replace c4 := Bool.eq_false_iff.mpr c4
  subst c4
  have H1 : (some 1) = some r := by rw [if_neg (show ¬ (false = true) by decide)] at H; exact H
  clear H
  have H := H1
  clear H1
  obtain rfl := Option.some.inj H
  go_enter Tryz.func44, Tryz.ntmps44
  go_wp2_with (first | ((with_reducible refine gate_dst (N := 2) rfl ?_); refine box_event ?hg (N := 2) ?hd (cs := #[.bool a0_0, .string a0_1, .int .i64 a0_2]) (t := 36) ?hr ?_; (case hd => rfl); (case hg => rfl); (case hr => first | (go_simp; done) | (go_simp; rfl)); intro gb101 hg w10 hbox hb; have BK101 := am (hbox); have GW101 := am (gw_ hg HB.out); have GE101 := GW101; replace HB := am (bs_ HB.out hb); clear hb hbox hg) | ((with_reducible refine gate_dst (N := 3) rfl ?_); refine box_event ?hg (N := 3) ?hd (cs := #[.bool false, .string a1_1, .int .i64 a1_2]) (t := 36) ?hr ?_; (case hd => rfl); (case hg => rfl); (case hr => first | (go_simp; done) | (go_simp; rfl)); intro gb102 hg w11 hbox hb; have BK102 := am (hbox); have GW102 := am (gw_ hg HB.out); have GE102 := GW102; replace HB := am (bs_ HB.out hb); have NB101_102 := am (nb_ hg BK101.out); have NB102_101 := am NB101_102.out.symm; replace BK101 := am (bb_ BK101.out hb); clear hb hbox hg; have hnb12 := NB101_102.out; have hnc12 := NB102_101.out; obtain ⟨hcz13_0, hcz13_1, hcz13_2, hfz13_0, hfz13_1, hfz13_2⟩ := bc3 BK101.out; obtain ⟨hcz14_0, hcz14_1, hcz14_2, hfz14_0, hfz14_1, hfz14_2⟩ := bc3 BK102.out))
  go_ret
  exact ⟨er_, pL HB.out⟩
 rw [if_neg c3] at H
 have c3b0 : (a0_0 != a1_0) = false := by simpa using c3
 (try (have c3b1 : decide (a0_0 = a1_0) = true := by simpa using c3))
 (try (have c3b2 : (a0_0 == a1_0) = true := by simpa using c3))
 clear c3
 by_cases c15 : a0_0 = true
 ·subst c15
  have H1 : ((lambrequinref01_texts.f k a0_1 a1_1).bind fun t103 => (some t103)) = some r := by rw [if_pos rfl] at H; exact H
  clear H
  have H := H1
  clear H1
  replace H := Option.bind_eq_some_iff.mp H
  obtain ⟨t103, A160, H⟩ := H
  replace H : (some t103) = some r := H
  have A16 := am A160
  clear A160
  obtain rfl := Option.some.inj H
  go_enter Tryz.func44, Tryz.ntmps44
  go_wp2_with (first | ((with_reducible refine gate_dst (N := 2) rfl ?_); refine box_event ?hg (N := 2) ?hd (cs := #[.bool true, .string a0_1, .int .i64 a0_2]) (t := 36) ?hr ?_; (case hd => rfl); (case hg => rfl); (case hr => first | (go_simp; done) | (go_simp; rfl)); intro gb101 hg w17 hbox hb; have BK101 := am (hbox); have GW101 := am (gw_ hg HB.out); have GE101 := GW101; replace HB := am (bs_ HB.out hb); clear hb hbox hg) | ((with_reducible refine gate_dst (N := 3) rfl ?_); refine box_event ?hg (N := 3) ?hd (cs := #[.bool a1_0, .string a1_1, .int .i64 a1_2]) (t := 36) ?hr ?_; (case hd => rfl); (case hg => rfl); (case hr => first | (go_simp; done) | (go_simp; rfl)); intro gb102 hg w18 hbox hb; have BK102 := am (hbox); have GW102 := am (gw_ hg HB.out); have GE102 := GW102; replace HB := am (bs_ HB.out hb); have NB101_102 := am (nb_ hg BK101.out); have NB102_101 := am NB101_102.out.symm; replace BK101 := am (bb_ BK101.out hb); clear hb hbox hg; have hnb19 := NB101_102.out; have hnc19 := NB102_101.out; obtain ⟨hcz20_0, hcz20_1, hcz20_2, hfz20_0, hfz20_1, hfz20_2⟩ := bc3 BK101.out; obtain ⟨hcz21_0, hcz21_1, hcz21_2, hfz21_0, hfz21_1, hfz21_2⟩ := bc3 BK102.out) | ((with_reducible refine gate_callee (f := 58) rfl ?_); refine goesL_ (some 18) rfl rfl Tryz.func58 (by kernel_rfl) rfl #[.string a0_1, .string a1_1] rfl gl_ ?_; (with_reducible refine (lambrequinref01_texts.calls k a0_1 a1_1 t103 _ A16.out).mono ?_); rintro e w' ⟨rfl, ⟨nd, rfl⟩⟩; refine ⟨_, rfl, ?_⟩))
  go_ret
  exact ⟨er_, pL HB.out⟩
 replace c15 := Bool.eq_false_iff.mpr c15
 subst c15
 have H1 : (if a0_2 < a1_2 then (some (-1)) else (if a0_2 > a1_2 then (some 1) else (some 0))) = some r := by rw [if_neg (show ¬ (false = true) by decide)] at H; exact H
 clear H
 have H := H1
 clear H1
 by_cases c22 : a0_2 < a1_2
 ·rw [if_pos c22] at H
  have c22b0 : decide (a0_2 < a1_2) = true := decide_eq_true c22
  clear c22
  obtain rfl := Option.some.inj H
  go_enter Tryz.func44, Tryz.ntmps44
  go_wp2_with (first | ((with_reducible refine gate_dst (N := 2) rfl ?_); refine box_event ?hg (N := 2) ?hd (cs := #[.bool false, .string a0_1, .int .i64 a0_2]) (t := 36) ?hr ?_; (case hd => rfl); (case hg => rfl); (case hr => first | (go_simp; done) | (go_simp; rfl)); intro gb101 hg w23 hbox hb; have BK101 := am (hbox); have GW101 := am (gw_ hg HB.out); have GE101 := GW101; replace HB := am (bs_ HB.out hb); clear hb hbox hg) | ((with_reducible refine gate_dst (N := 3) rfl ?_); refine box_event ?hg (N := 3) ?hd (cs := #[.bool a1_0, .string a1_1, .int .i64 a1_2]) (t := 36) ?hr ?_; (case hd => rfl); (case hg => rfl); (case hr => first | (go_simp; done) | (go_simp; rfl)); intro gb102 hg w24 hbox hb; have BK102 := am (hbox); have GW102 := am (gw_ hg HB.out); have GE102 := GW102; replace HB := am (bs_ HB.out hb); have NB101_102 := am (nb_ hg BK101.out); have NB102_101 := am NB101_102.out.symm; replace BK101 := am (bb_ BK101.out hb); clear hb hbox hg; have hnb25 := NB101_102.out; have hnc25 := NB102_101.out; obtain ⟨hcz26_0, hcz26_1, hcz26_2, hfz26_0, hfz26_1, hfz26_2⟩ := bc3 BK101.out; obtain ⟨hcz27_0, hcz27_1, hcz27_2, hfz27_0, hfz27_1, hfz27_2⟩ := bc3 BK102.out))
  go_ret
  exact ⟨er_, pL HB.out⟩
 rw [if_neg c22] at H
 have c22b0 : decide (a0_2 < a1_2) = false := decide_eq_false c22
 clear c22
 by_cases c28 : a0_2 > a1_2
 ·rw [if_pos c28] at H
  have c28b0 : decide (a1_2 < a0_2) = true := decide_eq_true c28
  clear c28
  obtain rfl := Option.some.inj H
  go_enter Tryz.func44, Tryz.ntmps44
  go_wp2_with (first | ((with_reducible refine gate_dst (N := 2) rfl ?_); refine box_event ?hg (N := 2) ?hd (cs := #[.bool false, .string a0_1, .int .i64 a0_2]) (t := 36) ?hr ?_; (case hd => rfl); (case hg => rfl); (case hr => first | (go_simp; done) | (go_simp; rfl)); intro gb101 hg w29 hbox hb; have BK101 := am (hbox); have GW101 := am (gw_ hg HB.out); have GE101 := GW101; replace HB := am (bs_ HB.out hb); clear hb hbox hg) | ((with_reducible refine gate_dst (N := 3) rfl ?_); refine box_event ?hg (N := 3) ?hd (cs := #[.bool a1_0, .string a1_1, .int .i64 a1_2]) (t := 36) ?hr ?_; (case hd => rfl); (case hg => rfl); (case hr => first | (go_simp; done) | (go_simp; rfl)); intro gb102 hg w30 hbox hb; have BK102 := am (hbox); have GW102 := am (gw_ hg HB.out); have GE102 := GW102; replace HB := am (bs_ HB.out hb); have NB101_102 := am (nb_ hg BK101.out); have NB102_101 := am NB101_102.out.symm; replace BK101 := am (bb_ BK101.out hb); clear hb hbox hg; have hnb31 := NB101_102.out; have hnc31 := NB102_101.out; obtain ⟨hcz32_0, hcz32_1, hcz32_2, hfz32_0, hfz32_1, hfz32_2⟩ := bc3 BK101.out; obtain ⟨hcz33_0, hcz33_1, hcz33_2, hfz33_0, hfz33_1, hfz33_2⟩ := bc3 BK102.out))
  go_ret
  exact ⟨er_, pL HB.out⟩
 rw [if_neg c28] at H
 have c28b0 : decide (a1_2 < a0_2) = false := decide_eq_false c28
 clear c28
 obtain rfl := Option.some.inj H
 go_enter Tryz.func44, Tryz.ntmps44
 go_wp2_with (first | ((with_reducible refine gate_dst (N := 2) rfl ?_); refine box_event ?hg (N := 2) ?hd (cs := #[.bool false, .string a0_1, .int .i64 a0_2]) (t := 36) ?hr ?_; (case hd => rfl); (case hg => rfl); (case hr => first | (go_simp; done) | (go_simp; rfl)); intro gb101 hg w34 hbox hb; have BK101 := am (hbox); have GW101 := am (gw_ hg HB.out); have GE101 := GW101; replace HB := am (bs_ HB.out hb); clear hb hbox hg) | ((with_reducible refine gate_dst (N := 3) rfl ?_); refine box_event ?hg (N := 3) ?hd (cs := #[.bool a1_0, .string a1_1, .int .i64 a1_2]) (t := 36) ?hr ?_; (case hd => rfl); (case hg => rfl); (case hr => first | (go_simp; done) | (go_simp; rfl)); intro gb102 hg w35 hbox hb; have BK102 := am (hbox); have GW102 := am (gw_ hg HB.out); have GE102 := GW102; replace HB := am (bs_ HB.out hb); have NB101_102 := am (nb_ hg BK101.out); have NB102_101 := am NB101_102.out.symm; replace BK101 := am (bb_ BK101.out hb); clear hb hbox hg; have hnb36 := NB101_102.out; have hnc36 := NB102_101.out; obtain ⟨hcz37_0, hcz37_1, hcz37_2, hfz37_0, hfz37_1, hfz37_2⟩ := bc3 BK101.out; obtain ⟨hcz38_0, hcz38_1, hcz38_2, hfz38_0, hfz38_1, hfz38_2⟩ := bc3 BK102.out))
 go_ret
 exact ⟨er_, pL HB.out⟩
def lambrequinref01_Same.f (k : Nat) (a0_0 : Bool) (a0_1 : ByteArray) (a0_2 : Int) (a1_0 : Bool) (a1_1 : ByteArray) (a1_2 : Int) : Option (Bool) := (lambrequinref01_Compare.f k a0_0 a0_1 a0_2 a1_0 a1_1 a1_2).bind fun t103 => (some (t103 == 0))
theorem lambrequinref01_Same.mono : ∀ a0 a1 a2 a3 a4 a5 k, LeO (lambrequinref01_Same.f k a0 a1 a2 a3 a4 a5) (lambrequinref01_Same.f (k + 1) a0 a1 a2 a3 a4 a5) := by
 intro a0 a1 a2 a3 a4 a5 k
 unfold lambrequinref01_Same.f
 repeat' first
   | (with_reducible exact lambrequinref01_Compare.mono _ _ _ _ _ _ _)
   | (with_reducible exact LeO.refl _)
   | (with_reducible exact LeO.none _)
   | (with_reducible refine LeO.ite ?_ ?_)
   | (with_reducible refine LeO.bind ?_ (fun _ => ?_))
   | exact lambrequinref01_Compare.mono _ _ _ _ _ _ _
   | exact LeO.none _
   | refine LeO.ite ?_ ?_
   | refine LeO.bind ?_ (fun _ => ?_)
set_option maxHeartbeats 8000000 in
set_option maxRecDepth 100000 in
theorem lambrequinref01_Same.calls (k : Nat) (a0_0 : Bool) (a0_1 : ByteArray) (a0_2 : Int) (a1_0 : Bool) (a1_1 : ByteArray) (a1_2 : Int) (r : Bool) (w : World) (h : lambrequinref01_Same.f k a0_0 a0_1 a0_2 a1_0 a1_1 a1_2 = some r) :
  Calls Tryz.prog 43 #[.agg #[.bool a0_0, .string a0_1, .int .i64 a0_2], .agg #[.bool a1_0, .string a1_1, .int .i64 a1_2]] w fun e w' => e = .returned (.bool r) ∧ Below w.heap.size w w' := by
 have hu36 := Tryz.underlying36
 have HB := am (Below.refl w.heap.size w)
 have H : ((lambrequinref01_Compare.f k a0_0 a0_1 a0_2 a1_0 a1_1 a1_2).bind fun t103 => (some (t103 == 0))) = some r := h
 clear h
 replace H := Option.bind_eq_some_iff.mp H
 obtain ⟨t103, A30, H⟩ := H
 replace H : (some (t103 == 0)) = some r := H
 have A3 := am A30
 clear A30
 obtain rfl := Option.some.inj H
 go_enter Tryz.func43, Tryz.ntmps43
 go_wp2_with (first | ((with_reducible refine gate_dst (N := 2) rfl ?_); refine box_event ?hg (N := 2) ?hd (cs := #[.bool a0_0, .string a0_1, .int .i64 a0_2]) (t := 36) ?hr ?_; (case hd => rfl); (case hg => rfl); (case hr => first | (go_simp; done) | (go_simp; rfl)); intro gb101 hg w4 hbox hb; have BK101 := am (hbox); have GW101 := am (gw_ hg HB.out); have GE101 := GW101; replace HB := am (bs_ HB.out hb); clear hb hbox hg) | ((with_reducible refine gate_dst (N := 3) rfl ?_); refine box_event ?hg (N := 3) ?hd (cs := #[.bool a1_0, .string a1_1, .int .i64 a1_2]) (t := 36) ?hr ?_; (case hd => rfl); (case hg => rfl); (case hr => first | (go_simp; done) | (go_simp; rfl)); intro gb102 hg w5 hbox hb; have BK102 := am (hbox); have GW102 := am (gw_ hg HB.out); have GE102 := GW102; replace HB := am (bs_ HB.out hb); have NB101_102 := am (nb_ hg BK101.out); have NB102_101 := am NB101_102.out.symm; replace BK101 := am (bb_ BK101.out hb); clear hb hbox hg; have hnb6 := NB101_102.out; have hnc6 := NB102_101.out; obtain ⟨hcz7_0, hcz7_1, hcz7_2, hfz7_0, hfz7_1, hfz7_2⟩ := bc3 BK101.out; obtain ⟨hcz8_0, hcz8_1, hcz8_2, hfz8_0, hfz8_1, hfz8_2⟩ := bc3 BK102.out) | ((with_reducible refine gate_callee (f := 44) rfl ?_); refine goesL_ (some 7) rfl rfl Tryz.func44 (by kernel_rfl) rfl #[.agg #[.bool a0_0, .string a0_1, .int .i64 a0_2], .agg #[.bool a1_0, .string a1_1, .int .i64 a1_2]] rfl gl_ ?_; (with_reducible refine (lambrequinref01_Compare.calls k a0_0 a0_1 a0_2 a1_0 a1_1 a1_2 t103 _ A3.out).mono ?_); rintro e w9 ⟨rfl, hb⟩; refine ⟨_, rfl, ?_⟩; replace BK101 := am (bb_ BK101.out hb); replace BK102 := am (bb_ BK102.out hb); replace HB := am (bs_ HB.out hb); (try clear hb); (try clear hb2); (try clear hk); (try clear hi)))
 go_ret
 exact ⟨er_, pL HB.out⟩
end Go.Proofs.YtoekfmdcplphmaaGreat.H

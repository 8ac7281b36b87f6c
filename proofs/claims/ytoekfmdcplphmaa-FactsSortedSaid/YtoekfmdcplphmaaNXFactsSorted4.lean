/- RowFactsSorted of the seat's law FactsSorted: the law holds, under the statement's own conditions. -/
import Derived.Test.YtoekfmdcplphmaaNXFactsSorted
import Derived.Test.YtoekfmdcplphmaaNXFactsSorted2
import Derived.Test.YtoekfmdcplphmaaNXFactsSorted3
import Derived.Test.YtoekfmdcplphmaaRows
import Derived.Test.YtoekfmdcplphmaaNW
import Derived.WalkKit
import Derived.ProofKit
import Derived.OpenShut
import Derived.ShutString
import Derived.ChangeOld
import Derived.Below
import Derived.SizedLaws
import Derived.Carry
set_option linter.unusedVariables false
set_option linter.unusedSimpArgs false
set_option linter.unusedSectionVars false
namespace Go.Proofs.Ytoekfmdcplphmaa.H
open Go.RowKit Go.Proofs.YtoekfmdcplphmaaW.PrintWords Go.Proofs.YtoekfmdcplphmaaW.PrintLast Go.Proofs.YtoekfmdcplphmaaW.PrintMore
attribute [local go_sem] max2_int min2_int max_two min_two max_three min_three max_four min_four
def lambrequinlaw21_FactsSorted.l0 : Nat → List (Stmt) → Bool → List (Fact) → Int → Option (Bool)
 | 0, _, _, _, _ => none
 | k + 1, x0, x3, x4, x5 => if x5 < (x4.length : Int) then (if 0 ≤ x5 then (if x5 > 0 then (if 0 ≤ (wrap64 (x5 - 1)) then (if (wrap64 (x5 - 1)) < (x4.length : Int) then ((lambrequinref14_Compare.f k ((rd_T44 x4 (wrap64 (x5 - 1))).pred) ((rd_T44 x4 (wrap64 (x5 - 1))).args) ((rd_T44 x4 x5).pred) ((rd_T44 x4 x5).args)).bind fun t108 => (if t108 = (-1) then (if ((rd_T44 x4 x5).pred).toList = ([110, 111, 100, 101] : List UInt8) then (if ((rd_T44 x4 x5).pred).toList = ([102, 108, 111, 119] : List UInt8) then ((lambrequinref09_In.f k (([(⟨#[100, 101, 102]⟩ : ByteArray), (⟨#[102, 108, 111, 119]⟩ : ByteArray), (⟨#[110, 101, 120, 116]⟩ : ByteArray), (⟨#[110, 111, 100, 101]⟩ : ByteArray), (⟨#[115, 105, 110, 107]⟩ : ByteArray), (⟨#[115, 111, 117, 114, 99, 101]⟩ : ByteArray), (⟨#[117, 115, 101]⟩ : ByteArray)] : List ByteArray)) ((rd_T44 x4 x5).pred)).bind fun t112 => (if t112 = true then (if (((rd_T44 x4 x5).args).length : Int) = 3 then (if 0 < (((rd_T44 x4 x5).args).length : Int) then (if (rd_T28 ((rd_T44 x4 x5).args) 0).isSym = true then (none) else (if ((rd_T28 ((rd_T44 x4 x5).args) 0).n) < 0 then (none) else (if ((rd_T28 ((rd_T44 x4 x5).args) 0).n) ≥ (x0.length : Int) then (none) else (lambrequinlaw21_FactsSorted.l0 k x0 x3 x4 (wrap64 (x5 + 1)))))) else (none)) else (none)) else (none))) else ((lambrequinref09_In.f k (([(⟨#[100, 101, 102]⟩ : ByteArray), (⟨#[102, 108, 111, 119]⟩ : ByteArray), (⟨#[110, 101, 120, 116]⟩ : ByteArray), (⟨#[110, 111, 100, 101]⟩ : ByteArray), (⟨#[115, 105, 110, 107]⟩ : ByteArray), (⟨#[115, 111, 117, 114, 99, 101]⟩ : ByteArray), (⟨#[117, 115, 101]⟩ : ByteArray)] : List ByteArray)) ((rd_T44 x4 x5).pred)).bind fun t119 => (if t119 = true then (if (((rd_T44 x4 x5).args).length : Int) = 1 then (if 0 < (((rd_T44 x4 x5).args).length : Int) then (if (rd_T28 ((rd_T44 x4 x5).args) 0).isSym = true then (none) else (if ((rd_T28 ((rd_T44 x4 x5).args) 0).n) < 0 then (none) else (if ((rd_T28 ((rd_T44 x4 x5).args) 0).n) ≥ (x0.length : Int) then (none) else (lambrequinlaw21_FactsSorted.l0 k x0 x3 x4 (wrap64 (x5 + 1)))))) else (none)) else (none)) else (none)))) else (if ((rd_T44 x4 x5).pred).toList = ([102, 108, 111, 119] : List UInt8) then ((lambrequinref09_In.f k (([(⟨#[100, 101, 102]⟩ : ByteArray), (⟨#[102, 108, 111, 119]⟩ : ByteArray), (⟨#[110, 101, 120, 116]⟩ : ByteArray), (⟨#[110, 111, 100, 101]⟩ : ByteArray), (⟨#[115, 105, 110, 107]⟩ : ByteArray), (⟨#[115, 111, 117, 114, 99, 101]⟩ : ByteArray), (⟨#[117, 115, 101]⟩ : ByteArray)] : List ByteArray)) ((rd_T44 x4 x5).pred)).bind fun t126 => (if t126 = true then (if (((rd_T44 x4 x5).args).length : Int) = 3 then (if 0 < (((rd_T44 x4 x5).args).length : Int) then (if (rd_T28 ((rd_T44 x4 x5).args) 0).isSym = true then (none) else (if ((rd_T28 ((rd_T44 x4 x5).args) 0).n) < 0 then (none) else (if ((rd_T28 ((rd_T44 x4 x5).args) 0).n) ≥ (x0.length : Int) then (none) else (lambrequinlaw21_FactsSorted.l0 k x0 x3 x4 (wrap64 (x5 + 1)))))) else (none)) else (none)) else (none))) else ((lambrequinref09_In.f k (([(⟨#[100, 101, 102]⟩ : ByteArray), (⟨#[102, 108, 111, 119]⟩ : ByteArray), (⟨#[110, 101, 120, 116]⟩ : ByteArray), (⟨#[110, 111, 100, 101]⟩ : ByteArray), (⟨#[115, 105, 110, 107]⟩ : ByteArray), (⟨#[115, 111, 117, 114, 99, 101]⟩ : ByteArray), (⟨#[117, 115, 101]⟩ : ByteArray)] : List ByteArray)) ((rd_T44 x4 x5).pred)).bind fun t133 => (if t133 = true then (if (((rd_T44 x4 x5).args).length : Int) = 2 then (if 0 < (((rd_T44 x4 x5).args).length : Int) then (if (rd_T28 ((rd_T44 x4 x5).args) 0).isSym = true then (none) else (if ((rd_T28 ((rd_T44 x4 x5).args) 0).n) < 0 then (none) else (if ((rd_T28 ((rd_T44 x4 x5).args) 0).n) ≥ (x0.length : Int) then (none) else (lambrequinlaw21_FactsSorted.l0 k x0 x3 x4 (wrap64 (x5 + 1)))))) else (none)) else (none)) else (none))))) else (none))) else (none)) else (none)) else (if ((rd_T44 x4 x5).pred).toList = ([110, 111, 100, 101] : List UInt8) then (if ((rd_T44 x4 x5).pred).toList = ([102, 108, 111, 119] : List UInt8) then ((lambrequinref09_In.f k (([(⟨#[100, 101, 102]⟩ : ByteArray), (⟨#[102, 108, 111, 119]⟩ : ByteArray), (⟨#[110, 101, 120, 116]⟩ : ByteArray), (⟨#[110, 111, 100, 101]⟩ : ByteArray), (⟨#[115, 105, 110, 107]⟩ : ByteArray), (⟨#[115, 111, 117, 114, 99, 101]⟩ : ByteArray), (⟨#[117, 115, 101]⟩ : ByteArray)] : List ByteArray)) ((rd_T44 x4 x5).pred)).bind fun t140 => (if t140 = true then (if (((rd_T44 x4 x5).args).length : Int) = 3 then (if 0 < (((rd_T44 x4 x5).args).length : Int) then (if (rd_T28 ((rd_T44 x4 x5).args) 0).isSym = true then (none) else (if ((rd_T28 ((rd_T44 x4 x5).args) 0).n) < 0 then (none) else (if ((rd_T28 ((rd_T44 x4 x5).args) 0).n) ≥ (x0.length : Int) then (none) else (lambrequinlaw21_FactsSorted.l0 k x0 x3 x4 (wrap64 (x5 + 1)))))) else (none)) else (none)) else (none))) else ((lambrequinref09_In.f k (([(⟨#[100, 101, 102]⟩ : ByteArray), (⟨#[102, 108, 111, 119]⟩ : ByteArray), (⟨#[110, 101, 120, 116]⟩ : ByteArray), (⟨#[110, 111, 100, 101]⟩ : ByteArray), (⟨#[115, 105, 110, 107]⟩ : ByteArray), (⟨#[115, 111, 117, 114, 99, 101]⟩ : ByteArray), (⟨#[117, 115, 101]⟩ : ByteArray)] : List ByteArray)) ((rd_T44 x4 x5).pred)).bind fun t147 => (if t147 = true then (if (((rd_T44 x4 x5).args).length : Int) = 1 then (if 0 < (((rd_T44 x4 x5).args).length : Int) then (if (rd_T28 ((rd_T44 x4 x5).args) 0).isSym = true then (none) else (if ((rd_T28 ((rd_T44 x4 x5).args) 0).n) < 0 then (none) else (if ((rd_T28 ((rd_T44 x4 x5).args) 0).n) ≥ (x0.length : Int) then (none) else (lambrequinlaw21_FactsSorted.l0 k x0 x3 x4 (wrap64 (x5 + 1)))))) else (none)) else (none)) else (none)))) else (if ((rd_T44 x4 x5).pred).toList = ([102, 108, 111, 119] : List UInt8) then ((lambrequinref09_In.f k (([(⟨#[100, 101, 102]⟩ : ByteArray), (⟨#[102, 108, 111, 119]⟩ : ByteArray), (⟨#[110, 101, 120, 116]⟩ : ByteArray), (⟨#[110, 111, 100, 101]⟩ : ByteArray), (⟨#[115, 105, 110, 107]⟩ : ByteArray), (⟨#[115, 111, 117, 114, 99, 101]⟩ : ByteArray), (⟨#[117, 115, 101]⟩ : ByteArray)] : List ByteArray)) ((rd_T44 x4 x5).pred)).bind fun t154 => (if t154 = true then (if (((rd_T44 x4 x5).args).length : Int) = 3 then (if 0 < (((rd_T44 x4 x5).args).length : Int) then (if (rd_T28 ((rd_T44 x4 x5).args) 0).isSym = true then (none) else (if ((rd_T28 ((rd_T44 x4 x5).args) 0).n) < 0 then (none) else (if ((rd_T28 ((rd_T44 x4 x5).args) 0).n) ≥ (x0.length : Int) then (none) else (lambrequinlaw21_FactsSorted.l0 k x0 x3 x4 (wrap64 (x5 + 1)))))) else (none)) else (none)) else (none))) else ((lambrequinref09_In.f k (([(⟨#[100, 101, 102]⟩ : ByteArray), (⟨#[102, 108, 111, 119]⟩ : ByteArray), (⟨#[110, 101, 120, 116]⟩ : ByteArray), (⟨#[110, 111, 100, 101]⟩ : ByteArray), (⟨#[115, 105, 110, 107]⟩ : ByteArray), (⟨#[115, 111, 117, 114, 99, 101]⟩ : ByteArray), (⟨#[117, 115, 101]⟩ : ByteArray)] : List ByteArray)) ((rd_T44 x4 x5).pred)).bind fun t161 => (if t161 = true then (if (((rd_T44 x4 x5).args).length : Int) = 2 then (if 0 < (((rd_T44 x4 x5).args).length : Int) then (if (rd_T28 ((rd_T44 x4 x5).args) 0).isSym = true then (none) else (if ((rd_T28 ((rd_T44 x4 x5).args) 0).n) < 0 then (none) else (if ((rd_T28 ((rd_T44 x4 x5).args) 0).n) ≥ (x0.length : Int) then (none) else (lambrequinlaw21_FactsSorted.l0 k x0 x3 x4 (wrap64 (x5 + 1)))))) else (none)) else (none)) else (none)))))) else (none)) else (if x3 = true then (some (decide ((x4.length : Int) ≥ (x0.length : Int)))) else (none))
def lambrequinlaw21_FactsSorted.f (k : Nat) (l0 : List (Stmt)) : Option (Bool) := (lambrequinlaw21_shown.f k).bind fun t101 => (if (l0.length : Int) > 60 then (some t101) else ((facts_Of.f k l0).bind fun t102 => (lambrequinlaw21_FactsSorted.l0 k l0 t101 t102 0)))
theorem lambrequinlaw21_FactsSorted.mono_l : ∀ k, (∀ y0 y1 y2 y3, LeO (lambrequinlaw21_FactsSorted.l0 k y0 y1 y2 y3) (lambrequinlaw21_FactsSorted.l0 (k + 1) y0 y1 y2 y3))
 | 0 => fun _ _ _ _ r h => by simp [lambrequinlaw21_FactsSorted.l0] at h
 | k + 1 => by
  have ih0 := lambrequinlaw21_FactsSorted.mono_l k
  ·intro y0 y1 y2 y3
   unfold lambrequinlaw21_FactsSorted.l0
   repeat' first
   | (with_reducible exact ih0 _ _ _ _)
   | (with_reducible exact facts_Of.mono _ _)
   | (with_reducible exact lambrequinlaw21_shown.mono _)
   | (with_reducible exact lambrequinref09_In.mono _ _ _)
   | (with_reducible exact lambrequinref14_Compare.mono _ _ _ _ _)
   | (with_reducible exact LeO.refl _)
   | (with_reducible exact LeO.none _)
   | (with_reducible refine LeO.ite ?_ ?_)
   | (with_reducible refine LeO.bind ?_ (fun _ => ?_))
   | exact ih0 _ _ _ _
   | exact facts_Of.mono _ _
   | exact lambrequinlaw21_shown.mono _
   | exact lambrequinref09_In.mono _ _ _
   | exact lambrequinref14_Compare.mono _ _ _ _ _
   | exact LeO.none _
   | refine LeO.ite ?_ ?_
   | refine LeO.bind ?_ (fun _ => ?_)
theorem lambrequinlaw21_FactsSorted.mono : ∀ a0 k, LeO (lambrequinlaw21_FactsSorted.f k a0) (lambrequinlaw21_FactsSorted.f (k + 1) a0) := by
 intro a0 k
 have ih0 := lambrequinlaw21_FactsSorted.mono_l k
 unfold lambrequinlaw21_FactsSorted.f
 repeat' first
   | (with_reducible exact ih0 _ _ _ _)
   | (with_reducible exact facts_Of.mono _ _)
   | (with_reducible exact lambrequinlaw21_shown.mono _)
   | (with_reducible exact lambrequinref09_In.mono _ _ _)
   | (with_reducible exact lambrequinref14_Compare.mono _ _ _ _ _)
   | (with_reducible exact LeO.refl _)
   | (with_reducible exact LeO.none _)
   | (with_reducible refine LeO.ite ?_ ?_)
   | (with_reducible refine LeO.bind ?_ (fun _ => ?_))
   | exact ih0 _ _ _ _
   | exact facts_Of.mono _ _
   | exact lambrequinlaw21_shown.mono _
   | exact lambrequinref09_In.mono _ _ _
   | exact lambrequinref14_Compare.mono _ _ _ _ _
   | exact LeO.none _
   | refine LeO.ite ?_ ?_
   | refine LeO.bind ?_ (fun _ => ?_)
def lambrequinlaw21_FactsSorted.T9 : Bool × List (List Nat × List Nat) := (true, [([], []), ([0], [0]), ([1], [1]), ([2], [2]), ([2], [2]), ([4, 2], [2, 4]), ([3, 5, 2], [2, 3, 5]), ([6, 2], [2, 6]), ([2], [2]), ([7, 8, 2, 2], [2, 7, 8]), ([9, 2], [2, 9]), ([2, 10], [2, 10])])
def lambrequinlaw21_FactsSorted.B9 : List Nat := [0, 1, 3, 7, 7, 23, 63, 127, 7, 511, 1023, 2047]
theorem lambrequinlaw21_FactsSorted.tab9 : rtab .any (opsOf Try.f5 9) = lambrequinlaw21_FactsSorted.T9 := by kernel_rfl
theorem lambrequinlaw21_FactsSorted.bits9 : waitsOk lambrequinlaw21_FactsSorted.T9.2 lambrequinlaw21_FactsSorted.B9 = true := by kernel_rfl
set_option maxHeartbeats 8000000 in
set_option maxRecDepth 100000 in
theorem lambrequinlaw21_FactsSorted.calls (k : Nat) (A0 : Option Addr) (c0 : Nat) (l0 : List (Stmt)) (r : Bool) (w : World) (hr0 : Kd.C k33 w A0 l0.length l0) (hc0 : l0.length ≤ c0) (h : lambrequinlaw21_FactsSorted.f k l0 = some r) :
  Calls Try.prog 5 #[.slice A0 l0.length c0] w fun e w' => e = .returned (.bool r) ∧ Below w.heap.size w w' := by
 have hu44 := Try.underlying44
 have HR0 := am hr0
 have HC0 := am hc0
 clear hr0 hc0
 have HB := am (Below.refl w.heap.size w)
 have H : ((lambrequinlaw21_shown.f k).bind fun t101 => (if (l0.length : Int) > 60 then (some t101) else ((facts_Of.f k l0).bind fun t102 => (lambrequinlaw21_FactsSorted.l0 k l0 t101 t102 0)))) = some r := h
 clear h
 replace H := Option.bind_eq_some_iff.mp H
 obtain ⟨t101, A20, H⟩ := H
 replace H : (if (l0.length : Int) > 60 then (some t101) else ((facts_Of.f k l0).bind fun t102 => (lambrequinlaw21_FactsSorted.l0 k l0 t101 t102 0))) = some r := H
 have A2 := am A20
 clear A20
 by_cases c3 : (l0.length : Int) > 60
 ·rw [if_pos c3] at H
  have c3b0 : decide (60 < (l0.length : Int)) = true := decide_eq_true c3
  have c3b1 : decide (60 < l0.length) = true := decide_eq_true (by omega)
  clear c3
  obtain rfl := Option.some.inj H
  go_enter Try.func5, Try.ntmps5
  go_wp2_with (first | ((with_reducible refine gate_callee (f := 7) rfl ?_); refine goesL_ (some 9) rfl rfl Try.func7 (by kernel_rfl) rfl #[] rfl (by (try simp only [List.map_toArray, List.map_cons, List.map_nil]); first | done | rfl | (simp only [List.length_drop, List.length_take]; rfl)) ?_; (with_reducible refine (lambrequinlaw21_shown.calls k  t101 _ A2.out).mono ?_); rintro e w4 ⟨rfl, hb⟩; refine ⟨_, rfl, ?_⟩; replace HB := am (bs_ HB.out hb); (try clear hb); (try clear hb2); (try clear hk); (try clear hi)))
  go_ret
  exact ⟨by first | rfl | (simp [errW_none, errW_some] <;> rfl) | (simp [*, errW_none, errW_some] <;> rfl), pL HB.out⟩
 ·rw [if_neg c3] at H
  have c3b0 : decide (60 < (l0.length : Int)) = false := decide_eq_false c3
  have c3b1 : decide (60 < l0.length) = false := decide_eq_false (by omega)
  clear c3
  replace H := Option.bind_eq_some_iff.mp H
  obtain ⟨t102, A50, H⟩ := H
  replace H : (lambrequinlaw21_FactsSorted.l0 k l0 t101 t102 0) = some r := H
  have A5 := am A50
  clear A50
  have H' := am H
  clear H
  go_enter Try.func5, Try.ntmps5
  go_wp2_with (first | ((with_reducible refine gate_callee (f := 7) rfl ?_); refine goesL_ (some 9) rfl rfl Try.func7 (by kernel_rfl) rfl #[] rfl (by (try simp only [List.map_toArray, List.map_cons, List.map_nil]); first | done | rfl | (simp only [List.length_drop, List.length_take]; rfl)) ?_; (with_reducible refine (lambrequinlaw21_shown.calls k  t101 _ A2.out).mono ?_); rintro e w6 ⟨rfl, hb⟩; refine ⟨_, rfl, ?_⟩; replace HB := am (bs_ HB.out hb); (try clear hb); (try clear hb2); (try clear hk); (try clear hi)) | ((with_reducible refine gate_callee (f := 8) rfl ?_); refine goesL_ (some 15) rfl rfl Try.func8 (by kernel_rfl) rfl #[.slice A0 l0.length c0] rfl (by (try simp only [List.map_toArray, List.map_cons, List.map_nil]); first | done | rfl | (simp only [List.length_drop, List.length_take]; rfl)) ?_; (with_reducible refine (facts_Of.calls k _ _ l0 t102 _ ?side1 ?side2 A5.out).mono ?_); (case side1 => repeat (first | exact (Kd.C_below HR0.out HB.out) | (with_reducible refine Kd.C_alloc ?_ _) | (with_reducible refine Kd.C_drewN ?_ _) | (with_reducible refine Kd.C_drew ?_))); (case side2 => exact HC0.out); rintro e w7 ⟨v103, rfl, ho0, hb⟩; refine ⟨_, rfl, ?_⟩; have HO104 := am (Kd.N_lower (Kd.N_mono (ok' := fun k_ => True) ho0 (fun k_ hk_ => trivial)) (below_size (pL HB.out))); replace HB := am (bs_ HB.out hb); (try clear hb); (try clear hb2); (try clear hk); (try clear hi); (try clear ho0)))
  go_loopg [5] k (fun kq v5 w' => ∃ (x5_1 : Int), v5 = .int .i64 x5_1 ∧ Aside0 (lambrequinlaw21_FactsSorted.l0 kq l0 t101 t102 x5_1 = some r) ∧ Aside0 (kq ≤ k) ∧ Aside0 (Kd.N k44 44 w' w.heap.size (fun _ => True) v103 t102) ∧ Aside0 (Below w.heap.size w w'))
  case atStart => exact ⟨(0), rs_, H', ⟨Nat.le_refl _⟩, ⟨by (with_reducible repeat (first | apply Kd.N_alloc | apply Kd.N_drewN | apply Kd.N_drew)); exact HO104.out⟩, ⟨pL HB.out⟩⟩
  case round =>
   clear H'
   try clear p2
   try clear c3
   try clear c3b0
   try clear c3b1
   try clear c5
   try clear c7
   obtain ⟨x5_1, rfl, HA, HK1, HO_4, HB⟩ := hrel
   cases gk with
   | zero => exact absurd HA.out (by simp [lambrequinlaw21_FactsSorted.l0])
   | succ k1 =>
    have H := HA.out
    clear HA
    simp only [lambrequinlaw21_FactsSorted.l0] at H
    by_cases c8 : x5_1 < (t102.length : Int)
    ·rw [if_pos c8] at H
     have c8b0 : decide (x5_1 < (t102.length : Int)) = true := decide_eq_true c8
     clear c8
     by_cases c9 : 0 ≤ x5_1
     ·rw [if_pos c9] at H
      have c9b0 : decide (0 ≤ x5_1) = true := decide_eq_true c9
      clear c9
      by_cases c10 : x5_1 > 0
      ·rw [if_pos c10] at H
       have c10b0 : decide (0 < x5_1) = true := decide_eq_true c10
       clear c10
       obtain ⟨ji11, hji11⟩ : ∃ j_ : Int, (wrap64 (x5_1 - 1)) = j_ := ⟨_, rfl⟩
       replace H : (if 0 ≤ (ji11) then (if (ji11) < (t102.length : Int) then ((lambrequinref14_Compare.f k1 ((rd_T44 t102 (ji11)).pred) ((rd_T44 t102 (ji11)).args) ((rd_T44 t102 x5_1).pred) ((rd_T44 t102 x5_1).args)).bind fun t108 => (if t108 = (-1) then (if ((rd_T44 t102 x5_1).pred).toList = ([110, 111, 100, 101] : List UInt8) then (if ((rd_T44 t102 x5_1).pred).toList = ([102, 108, 111, 119] : List UInt8) then ((lambrequinref09_In.f k1 (([(⟨#[100, 101, 102]⟩ : ByteArray), (⟨#[102, 108, 111, 119]⟩ : ByteArray), (⟨#[110, 101, 120, 116]⟩ : ByteArray), (⟨#[110, 111, 100, 101]⟩ : ByteArray), (⟨#[115, 105, 110, 107]⟩ : ByteArray), (⟨#[115, 111, 117, 114, 99, 101]⟩ : ByteArray), (⟨#[117, 115, 101]⟩ : ByteArray)] : List ByteArray)) ((rd_T44 t102 x5_1).pred)).bind fun t112 => (if t112 = true then (if (((rd_T44 t102 x5_1).args).length : Int) = 3 then (if 0 < (((rd_T44 t102 x5_1).args).length : Int) then (if (rd_T28 ((rd_T44 t102 x5_1).args) 0).isSym = true then (none) else (if ((rd_T28 ((rd_T44 t102 x5_1).args) 0).n) < 0 then (none) else (if ((rd_T28 ((rd_T44 t102 x5_1).args) 0).n) ≥ (l0.length : Int) then (none) else (lambrequinlaw21_FactsSorted.l0 k1 l0 t101 t102 (wrap64 (x5_1 + 1)))))) else (none)) else (none)) else (none))) else ((lambrequinref09_In.f k1 (([(⟨#[100, 101, 102]⟩ : ByteArray), (⟨#[102, 108, 111, 119]⟩ : ByteArray), (⟨#[110, 101, 120, 116]⟩ : ByteArray), (⟨#[110, 111, 100, 101]⟩ : ByteArray), (⟨#[115, 105, 110, 107]⟩ : ByteArray), (⟨#[115, 111, 117, 114, 99, 101]⟩ : ByteArray), (⟨#[117, 115, 101]⟩ : ByteArray)] : List ByteArray)) ((rd_T44 t102 x5_1).pred)).bind fun t119 => (if t119 = true then (if (((rd_T44 t102 x5_1).args).length : Int) = 1 then (if 0 < (((rd_T44 t102 x5_1).args).length : Int) then (if (rd_T28 ((rd_T44 t102 x5_1).args) 0).isSym = true then (none) else (if ((rd_T28 ((rd_T44 t102 x5_1).args) 0).n) < 0 then (none) else (if ((rd_T28 ((rd_T44 t102 x5_1).args) 0).n) ≥ (l0.length : Int) then (none) else (lambrequinlaw21_FactsSorted.l0 k1 l0 t101 t102 (wrap64 (x5_1 + 1)))))) else (none)) else (none)) else (none)))) else (if ((rd_T44 t102 x5_1).pred).toList = ([102, 108, 111, 119] : List UInt8) then ((lambrequinref09_In.f k1 (([(⟨#[100, 101, 102]⟩ : ByteArray), (⟨#[102, 108, 111, 119]⟩ : ByteArray), (⟨#[110, 101, 120, 116]⟩ : ByteArray), (⟨#[110, 111, 100, 101]⟩ : ByteArray), (⟨#[115, 105, 110, 107]⟩ : ByteArray), (⟨#[115, 111, 117, 114, 99, 101]⟩ : ByteArray), (⟨#[117, 115, 101]⟩ : ByteArray)] : List ByteArray)) ((rd_T44 t102 x5_1).pred)).bind fun t126 => (if t126 = true then (if (((rd_T44 t102 x5_1).args).length : Int) = 3 then (if 0 < (((rd_T44 t102 x5_1).args).length : Int) then (if (rd_T28 ((rd_T44 t102 x5_1).args) 0).isSym = true then (none) else (if ((rd_T28 ((rd_T44 t102 x5_1).args) 0).n) < 0 then (none) else (if ((rd_T28 ((rd_T44 t102 x5_1).args) 0).n) ≥ (l0.length : Int) then (none) else (lambrequinlaw21_FactsSorted.l0 k1 l0 t101 t102 (wrap64 (x5_1 + 1)))))) else (none)) else (none)) else (none))) else ((lambrequinref09_In.f k1 (([(⟨#[100, 101, 102]⟩ : ByteArray), (⟨#[102, 108, 111, 119]⟩ : ByteArray), (⟨#[110, 101, 120, 116]⟩ : ByteArray), (⟨#[110, 111, 100, 101]⟩ : ByteArray), (⟨#[115, 105, 110, 107]⟩ : ByteArray), (⟨#[115, 111, 117, 114, 99, 101]⟩ : ByteArray), (⟨#[117, 115, 101]⟩ : ByteArray)] : List ByteArray)) ((rd_T44 t102 x5_1).pred)).bind fun t133 => (if t133 = true then (if (((rd_T44 t102 x5_1).args).length : Int) = 2 then (if 0 < (((rd_T44 t102 x5_1).args).length : Int) then (if (rd_T28 ((rd_T44 t102 x5_1).args) 0).isSym = true then (none) else (if ((rd_T28 ((rd_T44 t102 x5_1).args) 0).n) < 0 then (none) else (if ((rd_T28 ((rd_T44 t102 x5_1).args) 0).n) ≥ (l0.length : Int) then (none) else (lambrequinlaw21_FactsSorted.l0 k1 l0 t101 t102 (wrap64 (x5_1 + 1)))))) else (none)) else (none)) else (none))))) else (none))) else (none)) else (none)) = some r := by first | (rw [hji11] at H; exact H) | (simp only [hji11] at H ⊢; exact H)
       have hji11w : (IntKind.i64.wrap (x5_1 - 1)) = ji11 := (i64_w _).trans hji11
       by_cases c12 : 0 ≤ (ji11)
       ·rw [if_pos c12] at H
        have c12b0 : decide (0 ≤ (ji11)) = true := decide_eq_true c12
        clear c12
        by_cases c13 : (ji11) < (t102.length : Int)
        ·rw [if_pos c13] at H
         have c13b0 : decide ((ji11) < (t102.length : Int)) = true := decide_eq_true c13
         clear c13
         replace H := Option.bind_eq_some_iff.mp H
         obtain ⟨t108, A140, H⟩ := H
         replace H : (if t108 = (-1) then (if ((rd_T44 t102 x5_1).pred).toList = ([110, 111, 100, 101] : List UInt8) then (if ((rd_T44 t102 x5_1).pred).toList = ([102, 108, 111, 119] : List UInt8) then ((lambrequinref09_In.f k1 (([(⟨#[100, 101, 102]⟩ : ByteArray), (⟨#[102, 108, 111, 119]⟩ : ByteArray), (⟨#[110, 101, 120, 116]⟩ : ByteArray), (⟨#[110, 111, 100, 101]⟩ : ByteArray), (⟨#[115, 105, 110, 107]⟩ : ByteArray), (⟨#[115, 111, 117, 114, 99, 101]⟩ : ByteArray), (⟨#[117, 115, 101]⟩ : ByteArray)] : List ByteArray)) ((rd_T44 t102 x5_1).pred)).bind fun t112 => (if t112 = true then (if (((rd_T44 t102 x5_1).args).length : Int) = 3 then (if 0 < (((rd_T44 t102 x5_1).args).length : Int) then (if (rd_T28 ((rd_T44 t102 x5_1).args) 0).isSym = true then (none) else (if ((rd_T28 ((rd_T44 t102 x5_1).args) 0).n) < 0 then (none) else (if ((rd_T28 ((rd_T44 t102 x5_1).args) 0).n) ≥ (l0.length : Int) then (none) else (lambrequinlaw21_FactsSorted.l0 k1 l0 t101 t102 (wrap64 (x5_1 + 1)))))) else (none)) else (none)) else (none))) else ((lambrequinref09_In.f k1 (([(⟨#[100, 101, 102]⟩ : ByteArray), (⟨#[102, 108, 111, 119]⟩ : ByteArray), (⟨#[110, 101, 120, 116]⟩ : ByteArray), (⟨#[110, 111, 100, 101]⟩ : ByteArray), (⟨#[115, 105, 110, 107]⟩ : ByteArray), (⟨#[115, 111, 117, 114, 99, 101]⟩ : ByteArray), (⟨#[117, 115, 101]⟩ : ByteArray)] : List ByteArray)) ((rd_T44 t102 x5_1).pred)).bind fun t119 => (if t119 = true then (if (((rd_T44 t102 x5_1).args).length : Int) = 1 then (if 0 < (((rd_T44 t102 x5_1).args).length : Int) then (if (rd_T28 ((rd_T44 t102 x5_1).args) 0).isSym = true then (none) else (if ((rd_T28 ((rd_T44 t102 x5_1).args) 0).n) < 0 then (none) else (if ((rd_T28 ((rd_T44 t102 x5_1).args) 0).n) ≥ (l0.length : Int) then (none) else (lambrequinlaw21_FactsSorted.l0 k1 l0 t101 t102 (wrap64 (x5_1 + 1)))))) else (none)) else (none)) else (none)))) else (if ((rd_T44 t102 x5_1).pred).toList = ([102, 108, 111, 119] : List UInt8) then ((lambrequinref09_In.f k1 (([(⟨#[100, 101, 102]⟩ : ByteArray), (⟨#[102, 108, 111, 119]⟩ : ByteArray), (⟨#[110, 101, 120, 116]⟩ : ByteArray), (⟨#[110, 111, 100, 101]⟩ : ByteArray), (⟨#[115, 105, 110, 107]⟩ : ByteArray), (⟨#[115, 111, 117, 114, 99, 101]⟩ : ByteArray), (⟨#[117, 115, 101]⟩ : ByteArray)] : List ByteArray)) ((rd_T44 t102 x5_1).pred)).bind fun t126 => (if t126 = true then (if (((rd_T44 t102 x5_1).args).length : Int) = 3 then (if 0 < (((rd_T44 t102 x5_1).args).length : Int) then (if (rd_T28 ((rd_T44 t102 x5_1).args) 0).isSym = true then (none) else (if ((rd_T28 ((rd_T44 t102 x5_1).args) 0).n) < 0 then (none) else (if ((rd_T28 ((rd_T44 t102 x5_1).args) 0).n) ≥ (l0.length : Int) then (none) else (lambrequinlaw21_FactsSorted.l0 k1 l0 t101 t102 (wrap64 (x5_1 + 1)))))) else (none)) else (none)) else (none))) else ((lambrequinref09_In.f k1 (([(⟨#[100, 101, 102]⟩ : ByteArray), (⟨#[102, 108, 111, 119]⟩ : ByteArray), (⟨#[110, 101, 120, 116]⟩ : ByteArray), (⟨#[110, 111, 100, 101]⟩ : ByteArray), (⟨#[115, 105, 110, 107]⟩ : ByteArray), (⟨#[115, 111, 117, 114, 99, 101]⟩ : ByteArray), (⟨#[117, 115, 101]⟩ : ByteArray)] : List ByteArray)) ((rd_T44 t102 x5_1).pred)).bind fun t133 => (if t133 = true then (if (((rd_T44 t102 x5_1).args).length : Int) = 2 then (if 0 < (((rd_T44 t102 x5_1).args).length : Int) then (if (rd_T28 ((rd_T44 t102 x5_1).args) 0).isSym = true then (none) else (if ((rd_T28 ((rd_T44 t102 x5_1).args) 0).n) < 0 then (none) else (if ((rd_T28 ((rd_T44 t102 x5_1).args) 0).n) ≥ (l0.length : Int) then (none) else (lambrequinlaw21_FactsSorted.l0 k1 l0 t101 t102 (wrap64 (x5_1 + 1)))))) else (none)) else (none)) else (none))))) else (none)) = some r := H
         have A14 := am A140
         clear A140
         by_cases c15 : t108 = (-1)
         ·rw [if_pos c15] at H
          have c15b0 : (t108 == (-1)) = true := beq_iff_eq.mpr c15
          have c15b1 : (t108 != (-1)) = false := bne_eq_false_iff_eq.mpr c15
          clear c15
          by_cases c16 : ((rd_T44 t102 x5_1).pred).toList = ([110, 111, 100, 101] : List UInt8)
          ·rw [if_pos c16] at H
           have c16b0 : (((rd_T44 t102 x5_1).pred).toList == ([110, 111, 100, 101] : List UInt8)) = true := beq_iff_eq.mpr c16
           have c16b1 : (((rd_T44 t102 x5_1).pred).toList != ([110, 111, 100, 101] : List UInt8)) = false := bne_eq_false_iff_eq.mpr c16
           clear c16
           by_cases c17 : ((rd_T44 t102 x5_1).pred).toList = ([102, 108, 111, 119] : List UInt8)
           ·rw [if_pos c17] at H
            have c17b0 : (((rd_T44 t102 x5_1).pred).toList == ([102, 108, 111, 119] : List UInt8)) = true := beq_iff_eq.mpr c17
            have c17b1 : (((rd_T44 t102 x5_1).pred).toList != ([102, 108, 111, 119] : List UInt8)) = false := bne_eq_false_iff_eq.mpr c17
            clear c17
            obtain ⟨y109, hy109⟩ : ∃ y_ : List ByteArray, y_ = (([(⟨#[100, 101, 102]⟩ : ByteArray), (⟨#[102, 108, 111, 119]⟩ : ByteArray), (⟨#[110, 101, 120, 116]⟩ : ByteArray), (⟨#[110, 111, 100, 101]⟩ : ByteArray), (⟨#[115, 105, 110, 107]⟩ : ByteArray), (⟨#[115, 111, 117, 114, 99, 101]⟩ : ByteArray), (⟨#[117, 115, 101]⟩ : ByteArray)] : List ByteArray)) := ⟨_, rfl⟩
            replace H : ((lambrequinref09_In.f k1 y109 ((rd_T44 t102 x5_1).pred)).bind fun t112 => (if t112 = true then (if (((rd_T44 t102 x5_1).args).length : Int) = 3 then (if 0 < (((rd_T44 t102 x5_1).args).length : Int) then (if (rd_T28 ((rd_T44 t102 x5_1).args) 0).isSym = true then (none) else (if ((rd_T28 ((rd_T44 t102 x5_1).args) 0).n) < 0 then (none) else (if ((rd_T28 ((rd_T44 t102 x5_1).args) 0).n) ≥ (l0.length : Int) then (none) else (lambrequinlaw21_FactsSorted.l0 k1 l0 t101 t102 (wrap64 (x5_1 + 1)))))) else (none)) else (none)) else (none))) = some r := by first | (rw [hy109]; with_reducible exact H) | (have H2_ := (Option.bind_some _ _).symm.trans H; rw [hy109]; with_reducible exact H2_) | (have H2_ := (Option.bind_some _ _).symm.trans H; with_reducible exact H2_) | with_reducible exact H | (rw [hy109]; exact H) | exact H
            have Ny109 := am hy109
            clear hy109
            replace H := Option.bind_eq_some_iff.mp H
            obtain ⟨t112, A180, H⟩ := H
            replace H : (if t112 = true then (if (((rd_T44 t102 x5_1).args).length : Int) = 3 then (if 0 < (((rd_T44 t102 x5_1).args).length : Int) then (if (rd_T28 ((rd_T44 t102 x5_1).args) 0).isSym = true then (none) else (if ((rd_T28 ((rd_T44 t102 x5_1).args) 0).n) < 0 then (none) else (if ((rd_T28 ((rd_T44 t102 x5_1).args) 0).n) ≥ (l0.length : Int) then (none) else (lambrequinlaw21_FactsSorted.l0 k1 l0 t101 t102 (wrap64 (x5_1 + 1)))))) else (none)) else (none)) else (none)) = some r := H
            have A18 := am A180
            clear A180
            by_cases c19 : t112 = true
            ·subst c19
             have H1 : (if (((rd_T44 t102 x5_1).args).length : Int) = 3 then (if 0 < (((rd_T44 t102 x5_1).args).length : Int) then (if (rd_T28 ((rd_T44 t102 x5_1).args) 0).isSym = true then (none) else (if ((rd_T28 ((rd_T44 t102 x5_1).args) 0).n) < 0 then (none) else (if ((rd_T28 ((rd_T44 t102 x5_1).args) 0).n) ≥ (l0.length : Int) then (none) else (lambrequinlaw21_FactsSorted.l0 k1 l0 t101 t102 (wrap64 (x5_1 + 1)))))) else (none)) else (none)) = some r := by rw [if_pos rfl] at H; exact H
             clear H
             have H := H1
             clear H1
             by_cases c20 : (((rd_T44 t102 x5_1).args).length : Int) = 3
             ·rw [if_pos c20] at H
              have c20b0 : ((((rd_T44 t102 x5_1).args).length : Int) == 3) = true := beq_iff_eq.mpr c20
              have c20b1 : ((((rd_T44 t102 x5_1).args).length : Int) != 3) = false := bne_eq_false_iff_eq.mpr c20
              clear c20
              by_cases c21 : 0 < (((rd_T44 t102 x5_1).args).length : Int)
              ·rw [if_pos c21] at H
               have c21b0 : decide (0 < (((rd_T44 t102 x5_1).args).length : Int)) = true := decide_eq_true c21
               have c21b1 : decide (0 < ((rd_T44 t102 x5_1).args).length) = true := decide_eq_true (by omega)
               clear c21
               obtain ⟨bq22, hbq22⟩ : ∃ b_ : Bool, b_ = ((rd_T28 ((rd_T44 t102 x5_1).args) 0).isSym) := ⟨_, rfl⟩
               replace H : (if bq22 = true then (none) else (if ((rd_T28 ((rd_T44 t102 x5_1).args) 0).n) < 0 then (none) else (if ((rd_T28 ((rd_T44 t102 x5_1).args) 0).n) ≥ (l0.length : Int) then (none) else (lambrequinlaw21_FactsSorted.l0 k1 l0 t101 t102 (wrap64 (x5_1 + 1)))))) = some r := by rw [← hbq22] at H; exact H
               have Nbq22 := am hbq22
               clear hbq22
               by_cases c23 : bq22 = true
               ·rw [if_pos c23] at H
                exact absurd H (by simp)
               ·replace c23 := Bool.eq_false_iff.mpr c23
                subst c23
                have H1 : (if ((rd_T28 ((rd_T44 t102 x5_1).args) 0).n) < 0 then (none) else (if ((rd_T28 ((rd_T44 t102 x5_1).args) 0).n) ≥ (l0.length : Int) then (none) else (lambrequinlaw21_FactsSorted.l0 k1 l0 t101 t102 (wrap64 (x5_1 + 1))))) = some r := by rw [if_neg (show ¬ (false = true) by decide)] at H; exact H
                clear H
                have H := H1
                clear H1
                by_cases c35 : ((rd_T28 ((rd_T44 t102 x5_1).args) 0).n) < 0
                ·rw [if_pos c35] at H
                 exact absurd H (by simp)
                ·rw [if_neg c35] at H
                 have c35b0 : decide (((rd_T28 ((rd_T44 t102 x5_1).args) 0).n) < 0) = false := decide_eq_false c35
                 clear c35
                 by_cases c47 : ((rd_T28 ((rd_T44 t102 x5_1).args) 0).n) ≥ (l0.length : Int)
                 ·rw [if_pos c47] at H
                  exact absurd H (by simp)
                 ·rw [if_neg c47] at H
                  have c47b0 : decide ((l0.length : Int) ≤ ((rd_T28 ((rd_T44 t102 x5_1).args) 0).n)) = false := decide_eq_false c47
                  clear c47
                  have H' := am H
                  clear H
                  obtain ⟨Ao59, co59, eo59⟩ := Kd.N_slice HO_4.out
                  subst eo59
                  have p105 : 0 ≤ (x5_1 : Int) := dt_
                  have q105 : x5_1 < (t102.length : Int) := dt_
                  obtain ⟨ad105, A105_1, c105_1, e105, hx105_0, hx105_1, hl105_1, hi105_1⟩ := at_T44 (Kd.N_reads' HO_4.out).2.2 x5_1 p105 q105
                  cases e105
                  obtain ⟨ce105, hce105, hMe105, hcc105⟩ := Kd.N_get HO_4.out z44 x5_1 p105 (by first | exact q105 | exact dt_ | (have e_ := (Kd.N_reads' HO_4.out).1; omega))
                  obtain ⟨ua105_1, uc105_1, rfl, ul105_1, ge105_1⟩ := k44_openF hMe105
                  have hv105_1 := hcc105 1 _ rfl
                  rw [add_field _ _ 1 (by omega)] at hv105_1
                  replace hv105_1 := Option.some.inj (hv105_1.symm.trans hx105_1)
                  injection hv105_1 with hva_ hvn_ hvc_
                  rw [hva_] at ge105_1
                  rw [hvc_] at ul105_1
                  have HL105_1 := am (show Kd.V k28 28 _ w.heap.size _ _ ((rd_T44 t102 x5_1).args) from Kd.V_mk ul105_1 ge105_1)
                  clear hva_ hvn_ hvc_ ge105_1 ul105_1
                  clear hcc105 hce105
                  have HR105_1 := am hi105_1
                  have HC105_1 := am hl105_1
                  clear hi105_1 hl105_1
                  replace p105 := eq_true p105
                  replace q105 := eq_true q105
                  try go_wp2_with (first | ((with_reducible refine gate_dst (N := 6) rfl ?_); (try (refine gate_guard (by rfl) ?_; dsimp only)); refine box_event ?hg (N := 6) ?hd (cs := #[.string (⟨#[]⟩ : ByteArray), .slice none 0 0]) (t := 44) ?hr ?_; (case hd => rfl); (case hg => rfl); (case hr => first | (go_simp; done) | (go_simp; rfl)); intro gb106 hg w60 hbox hb; replace HO_4 := am (Kd.N_below (Kd.N_elderB (by (with_reducible repeat (first | apply Kd.N_alloc | apply Kd.N_drewN | apply Kd.N_drew)); exact HO_4.out) gb106 (Nat.le_of_eq hg.symm)) hb); replace HL105_1 := am (Kd.V_below (Kd.V_elderB (pV HL105_1.out) gb106 (Nat.le_of_eq hg.symm)) hb); replace HR105_1 := am (Kd.C_below (by repeat (first | (with_reducible exact HR105_1.out) | (with_reducible refine Kd.C_alloc ?_ _) | (with_reducible refine Kd.C_drewN ?_ _) | (with_reducible refine Kd.C_drew ?_) | exact HR105_1.out)) hb); have BK106 := am (hbox); have GW106 := am (gw_ hg HB.out); have GE106 := GW106; replace HB := am (bs_ HB.out hb); clear hb hbox hg; obtain ⟨hcz61_0, hcz61_1, hfz61_0, hfz61_1⟩ := bc2 BK106.out))
                  have n0_ : Aside0 (Kd.N k44 44 ((w60.setCell ⟨gb106, 0, none⟩ (.string ((rd_T44 t102 x5_1).pred))).setCell ⟨gb106, 1, none⟩ (.slice A105_1 ((rd_T44 t102 x5_1).args).length c105_1)) w.heap.size (fun k_ => k_ ≠ gb106) (.slice (some ad105) t102.length co59) t102) := ⟨by (with_reducible repeat (first | apply Kd.N_alloc | apply Kd.N_drewN | apply Kd.N_drew)); exact Kd.N_mono (Kd.N_far (p := ⟨gb106, 1, none⟩) (Kd.N_far (p := ⟨gb106, 0, none⟩) (Kd.N_mono HO_4.out (fun k_ hk => (⟨hk, hk.2⟩ : _ ∧ k_ ≠ gb106))) (fun _ hk => hk.2) _) (fun _ hk => hk.2) _) (fun _ hk => hk.1.2)⟩
                  have n1_ : Aside0 (Kd.V k28 28 ((w60.setCell ⟨gb106, 0, none⟩ (.string ((rd_T44 t102 x5_1).pred))).setCell ⟨gb106, 1, none⟩ (.slice A105_1 ((rd_T44 t102 x5_1).args).length c105_1)) w.heap.size (fun k_ => some k_ ≠ (.slice (some ad105) t102.length co59 : Value).ownBlock ∧ k_ ≠ gb106) (.slice A105_1 ((rd_T44 t102 x5_1).args).length c105_1) ((rd_T44 t102 x5_1).args)) := ⟨by (with_reducible repeat (first | apply Va | apply Vn | apply Vd)); exact Kd.V_mono (Kd.V_far (p := ⟨gb106, 1, none⟩) (Kd.V_far (p := ⟨gb106, 0, none⟩) (Kd.V_mono HL105_1.out (fun k_ hk => (⟨hk, hk.2⟩ : _ ∧ k_ ≠ gb106))) (fun _ hk => hk.2) _) (fun _ hk => hk.2) _) (fun _ hk => ⟨hk.1.1.2, hk.1.2⟩)⟩
                  have n2_ : Aside0 (((w60.setCell ⟨gb106, 0, none⟩ (.string ((rd_T44 t102 x5_1).pred))).setCell ⟨gb106, 1, none⟩ (.slice A105_1 ((rd_T44 t102 x5_1).args).length c105_1)).heap[gb106]? = some (.cells #[.string ((rd_T44 t102 x5_1).pred), .slice A105_1 ((rd_T44 t102 x5_1).args).length c105_1] 44 (0, 0))) := ⟨by (with_reducible repeat (first | refine bN ?_ _ | refine bD ?_ | refine bA ?_ _)); exact bq2 BK106.out⟩
                  have n3_ : Aside0 (Below w.heap.size w ((w60.setCell ⟨gb106, 0, none⟩ (.string ((rd_T44 t102 x5_1).pred))).setCell ⟨gb106, 1, none⟩ (.slice A105_1 ((rd_T44 t102 x5_1).args).length c105_1))) := ⟨pL HB.out⟩
                  (try clear HO_4)
                  (try clear HL105_1)
                  (try clear BK106)
                  (try clear HB)
                  generalize ((w60.setCell ⟨gb106, 0, none⟩ (.string ((rd_T44 t102 x5_1).pred))).setCell ⟨gb106, 1, none⟩ (.slice A105_1 ((rd_T44 t102 x5_1).args).length c105_1)) = w62 at n0_ n1_ n2_ n3_ ⊢
                  have HO_4 := n0_
                  have HL105_1 := n1_
                  have BK106 := n2_
                  have HB := n3_
                  clear n0_ n1_ n2_ n3_
                  replace HO_4 := am (Kd.N_drew HO_4.out)
                  replace HL105_1 := am (Kd.V_drew HL105_1.out)
                  replace BK106 := am (blk_drew BK106.out)
                  replace HB := am (below_drew1 HB.out)
                  have p107 : 0 ≤ ((ji11) : Int) := dt_
                  have q107 : (ji11) < (t102.length : Int) := dt_
                  obtain ⟨ad107, A107_1, c107_1, e107, hx107_0, hx107_1, hl107_1, hi107_1⟩ := at_T44 (Kd.N_reads' HO_4.out).2.2 (ji11) p107 q107
                  obtain rfl : ad105 = ad107 := (by injection e107)
                  obtain ⟨ce107, hce107, hMe107, hcc107⟩ := Kd.N_get HO_4.out z44 (ji11) p107 (by first | exact q107 | exact dt_ | (have e_ := (Kd.N_reads' HO_4.out).1; omega))
                  obtain ⟨ua107_1, uc107_1, rfl, ul107_1, ge107_1⟩ := k44_openF hMe107
                  have hv107_1 := hcc107 1 _ rfl
                  rw [add_field _ _ 1 (by omega)] at hv107_1
                  replace hv107_1 := Option.some.inj (hv107_1.symm.trans hx107_1)
                  injection hv107_1 with hva_ hvn_ hvc_
                  rw [hva_] at ge107_1
                  rw [hvc_] at ul107_1
                  have HL107_1 := am (show Kd.V k28 28 _ w.heap.size _ _ ((rd_T44 t102 (ji11)).args) from Kd.V_mk ul107_1 ge107_1)
                  clear hva_ hvn_ hvc_ ge107_1 ul107_1
                  clear hcc107 hce107
                  have HR107_1 := am hi107_1
                  have HC107_1 := am hl107_1
                  clear hi107_1 hl107_1
                  replace p107 := eq_true p107
                  replace q107 := eq_true q107
                  refine start_ (n := 12) (S := fun w' => w'.cell? ⟨gb106, 0, none⟩ = some (.string ((rd_T44 t102 x5_1).pred)) ∧ w'.cell? ⟨gb106, 1, none⟩ = some (.slice A105_1 ((rd_T44 t102 x5_1).args).length c105_1) ∧ w'.cell? (ad105.add (((ji11)).toNat * 2)) = some (.string ((rd_T44 t102 (ji11)).pred)) ∧ w'.cell? ⟨(ad105.add (((ji11)).toNat * 2)).block, (ad105.add (((ji11)).toNat * 2)).off + 1, none⟩ = some (.slice A107_1 ((rd_T44 t102 (ji11)).args).length c107_1)) (ds := []) (bl 12 0) (by kernel_rfl) rfl rfl ⟨(blk_cell BK106.out 0).trans rfl, (blk_cell BK106.out 1).trans rfl, hx107_0, hx107_1⟩ (fun hHeld => ?_); refine with_tabW lambrequinlaw21_FactsSorted.tab9 lambrequinlaw21_FactsSorted.bits9 (fun HT_ HW_ => ?_)
                  generalize w62.drew = w63 at HO_4 HL105_1 BK106 HB HL107_1 HR107_1 hx107_0 hx107_1 hHeld ⊢
                  refine pure_ (i := 0) (N := some 26) (v := ?_) (a' := ?_) (bl 12 1) rfl rfl (any_of HT_.out (by kernel_rfl)) (fun _ _ _ h => h) (Or.inl ⟨by rfl, ?_⟩) ?_ ?_
                  rotate_left
                  ·intro w'
                   go_simp
                   with_reducible rfl
                  rotate_left
                  ·simp only [Act.put, sA, sZ, sS, i64_w, i32_w]
                   rfl
                  refine pure_ (i := 1) (N := some 27) (v := ?_) (a' := ?_) (bl 12 3) rfl rfl (any_of HT_.out (by kernel_rfl)) (fun _ _ _ h => h) (Or.inl ⟨by rfl, ?_⟩) ?_ ?_
                  rotate_left
                  ·intro w'
                   go_simp
                   with_reducible rfl
                  rotate_left
                  ·simp only [Act.put, sA, sZ, sS, i64_w, i32_w]
                   rfl
                  refine pure_ (i := 2) (N := some 28) (v := ?_) (a' := ?_) (bl 12 7) rfl rfl (any_of HT_.out (by kernel_rfl)) (fun _ _ _ h => h) (Or.inl ⟨by rfl, ?_⟩) ?_ ?_
                  rotate_left
                  ·intro w'
                   go_simp
                   with_reducible rfl
                  rotate_left
                  ·simp only [Act.put, sA, sZ, sS, i64_w, i32_w]
                   rfl
                  refine pure_ (i := 3) (N := some 29) (v := ?_) (a' := ?_) (bl 12 15) rfl rfl (any_of HT_.out (by kernel_rfl)) (fun _ _ _ h => h) (Or.inl ⟨by rfl, ?_⟩) ?_ ?_
                  rotate_left
                  ·intro w'
                   go_simp
                   with_reducible rfl
                  rotate_left
                  ·simp only [Act.put, sA, sZ, sS, i64_w, i32_w]
                   rfl
                  refine pure_ (i := 4) (N := some 30) (v := ?_) (a' := ?_) (bl 12 31) rfl rfl (any_of HT_.out (by kernel_rfl)) (fun _ _ _ h => h) (Or.inl ⟨by rfl, ?_⟩) ?_ ?_
                  rotate_left
                  ·intro w'
                   go_simp
                   with_reducible rfl
                  rotate_left
                  ·simp only [Act.put, sA, sZ, sS, i64_w, i32_w]
                   rfl
                  refine pure_ (i := 5) (N := some 31) (v := ?_) (a' := ?_) (bl 12 63) rfl rfl (any_of HT_.out (by kernel_rfl)) (fun _ _ _ h => h) (Or.inl ⟨by rfl, ?_⟩) ?_ ?_
                  rotate_left
                  ·intro w'
                   go_simp
                   with_reducible rfl
                  rotate_left
                  ·simp only [Act.put, sA, sZ, sS, i64_w, i32_w]
                   rfl
                  refine pure_ (i := 6) (N := some 32) (v := ?_) (a' := ?_) (bl 12 127) rfl rfl (any_of HT_.out (by kernel_rfl)) (fun _ _ _ h => h) (Or.inl ⟨by rfl, ?_⟩) ?_ ?_
                  rotate_left
                  ·intro w'
                   go_simp
                   with_reducible rfl
                  rotate_left
                  ·simp only [Act.put, sA, sZ, sS, i64_w, i32_w]
                   rfl
                  refine take_ (i := 7) (N := some 33) (v := ?_) (a' := ?_) (bl 12 255) rfl rfl (take_ofW HT_.out HW_.out (by kernel_rfl)) (fun _ _ _ h => h) (Or.inl ⟨by rfl, ?_⟩) hHeld ?_ ?_
                  rotate_left
                  ·rintro w' ⟨s0, s1, s2, s3⟩
                   go_simp
                   with_reducible rfl
                  rotate_left
                  ·simp only [Act.put, sA, sZ, sS, i64_w, i32_w]
                   rfl
                  refine take_ (i := 8) (N := some 34) (v := ?_) (a' := ?_) (bl 12 511) rfl rfl (take_ofW HT_.out HW_.out (by kernel_rfl)) (fun _ _ _ h => h) (Or.inl ⟨by rfl, ?_⟩) hHeld ?_ ?_
                  rotate_left
                  ·rintro w' ⟨s0, s1, s2, s3⟩
                   go_simp
                   with_reducible rfl
                  rotate_left
                  ·simp only [Act.put, sA, sZ, sS, i64_w, i32_w]
                   rfl
                  refine one_ (i := 9) (N := some 35) (bl 12 1023) rfl rfl (one_of HT_.out (by kernel_rfl)) (by decide) (fun K hK => ?_)
                  refine goes_ Try.func16 (by kernel_rfl) rfl #[.agg #[.string ((rd_T44 t102 (ji11)).pred), .slice A107_1 ((rd_T44 t102 (ji11)).args).length c107_1], .agg #[.string ((rd_T44 t102 x5_1).pred), .slice A105_1 ((rd_T44 t102 x5_1).args).length c105_1]] (by rfl) rfl rfl (by (try simp only [List.map_toArray, List.map_cons, List.map_nil]); first | done | (simp only [hji11]; rfl) | rfl | (simp only [List.length_drop, List.length_take]; rfl)) ?_
                  with_reducible refine (lambrequinref14_Compare.calls k1 ((rd_T44 t102 (ji11)).pred) _ _ ((rd_T44 t102 (ji11)).args) ((rd_T44 t102 x5_1).pred) _ _ ((rd_T44 t102 x5_1).args) t108 _ ?side1 ?side2 ?side3 ?side4 A14.out).mono ?_
                  (case side1 => repeat (first | exact (by repeat (first | (with_reducible exact HR107_1.out) | (with_reducible refine Kd.C_alloc ?_ _) | (with_reducible refine Kd.C_drewN ?_ _) | (with_reducible refine Kd.C_drew ?_) | exact HR107_1.out)) | (with_reducible refine Kd.C_alloc ?_ _) | (with_reducible refine Kd.C_drewN ?_ _) | (with_reducible refine Kd.C_drew ?_)))
                  (case side2 => exact HC107_1.out)
                  (case side3 => repeat (first | exact ((Kd.V_reads' HL105_1.out).2.2) | (with_reducible refine Kd.C_alloc ?_ _) | (with_reducible refine Kd.C_drewN ?_ _) | (with_reducible refine Kd.C_drew ?_)))
                  (case side4 => exact HC105_1.out)
                  rintro e w64 ⟨rfl, hb⟩
                  have HS2_ := (hb.cell (blt_ (hHeld.2.2.1))).trans (hHeld.2.2.1)
                  have HS3_ := (hb.cell (blt_ (hHeld.2.2.2))).trans (hHeld.2.2.2)
                  refine ⟨_, rfl, ?_⟩
                  replace HO_4 := am (Kd.N_below (by (with_reducible repeat (first | apply Kd.N_alloc | apply Kd.N_drewN | apply Kd.N_drew)); exact HO_4.out) hb)
                  replace HL105_1 := am (Kd.V_below (pV HL105_1.out) hb)
                  replace HL107_1 := am (Kd.V_below (pV HL107_1.out) hb)
                  replace BK106 := am (bb_ BK106.out hb)
                  replace HR107_1 := am (Kd.C_below (by repeat (first | (with_reducible exact HR107_1.out) | (with_reducible refine Kd.C_alloc ?_ _) | (with_reducible refine Kd.C_drewN ?_ _) | (with_reducible refine Kd.C_drew ?_) | exact HR107_1.out)) hb)
                  replace HB := am (bs_ HB.out hb)
                  (try clear hb)
                  (try clear hb2)
                  (try clear hk)
                  (try clear hi)
                  refine hK.out _ _ ⟨(blk_cell BK106.out 0).trans rfl, (blk_cell BK106.out 1).trans rfl, HS2_, HS3_⟩ (fun hHeld => ?_)
                  clear hK K
                  refine norm_ (a' := ?_) ?_ ?_
                  rotate_left
                  ·show Act.put _ (some 35) _ = _
                   simp only [Act.put, sA, sZ, sS, i64_w, i32_w]
                   rfl
                  refine pure_ (i := 10) (N := some 36) (v := ?_) (a' := ?_) (bl 12 2047) rfl rfl (any_of HT_.out (by kernel_rfl)) (fun _ _ _ h => h) (Or.inl ⟨by rfl, ?_⟩) ?_ ?_
                  rotate_left
                  ·intro w'
                   go_simp
                   with_reducible rfl
                  rotate_left
                  ·simp only [Act.put, sA, sZ, sS, i64_w, i32_w]
                   rfl
                  refine pure_ (i := 11) (N := some 37) (v := ?_) (a' := ?_) (bl 12 4095) rfl rfl (any_of HT_.out (by kernel_rfl)) (fun _ _ _ h => h) (Or.inl ⟨by rfl, ?_⟩) ?_ ?_
                  rotate_left
                  ·intro w'
                   go_simp
                   with_reducible rfl
                  rotate_left
                  ·simp only [Act.put, sA, sZ, sS, i64_w, i32_w]
                   rfl
                  refine done_ (done_of HT_.out (by kernel_rfl)) ?_
                  obtain ⟨hcz65_0, hcz65_1, hfz65_0, hfz65_1⟩ := bc2 BK106.out
                  try go_wp2_with (first | ((with_reducible refine gate_dst (N := 44) rfl ?_); (try (refine gate_guard (by rfl) ?_; dsimp only)); refine Kd.R_lit Kd.string _ 9 ?hg (N := 44) ?hd (xs := ([(⟨#[100, 101, 102]⟩ : ByteArray), (⟨#[102, 108, 111, 119]⟩ : ByteArray), (⟨#[110, 101, 120, 116]⟩ : ByteArray), (⟨#[110, 111, 100, 101]⟩ : ByteArray), (⟨#[115, 105, 110, 107]⟩ : ByteArray), (⟨#[115, 111, 117, 114, 99, 101]⟩ : ByteArray), (⟨#[117, 115, 101]⟩ : ByteArray)] : List ByteArray)) (inner := [.string (⟨#[100, 101, 102]⟩ : ByteArray), .string (⟨#[102, 108, 111, 119]⟩ : ByteArray), .string (⟨#[110, 101, 120, 116]⟩ : ByteArray), .string (⟨#[110, 111, 100, 101]⟩ : ByteArray), .string (⟨#[115, 105, 110, 107]⟩ : ByteArray), .string (⟨#[115, 111, 117, 114, 99, 101]⟩ : ByteArray), .string (⟨#[117, 115, 101]⟩ : ByteArray)]) (ok := fun _ => True) (okp := fun _ => True) ?hr ?hp (fun _ hk => hk) trivial (Below.refl _ _) (Nat.le_refl _) (by simp) ?_; (case hd => rfl); (case hg => rfl); (case hr => first | (go_simp; done) | (go_simp; rfl)); (case hp => exact (Reps.one (show Kd.M Kd.string _ _ _ (⟨#[100, 101, 102]⟩ : ByteArray) [.string (⟨#[100, 101, 102]⟩ : ByteArray)] from rfl) (Reps.one (show Kd.M Kd.string _ _ _ (⟨#[102, 108, 111, 119]⟩ : ByteArray) [.string (⟨#[102, 108, 111, 119]⟩ : ByteArray)] from rfl) (Reps.one (show Kd.M Kd.string _ _ _ (⟨#[110, 101, 120, 116]⟩ : ByteArray) [.string (⟨#[110, 101, 120, 116]⟩ : ByteArray)] from rfl) (Reps.one (show Kd.M Kd.string _ _ _ (⟨#[110, 111, 100, 101]⟩ : ByteArray) [.string (⟨#[110, 111, 100, 101]⟩ : ByteArray)] from rfl) (Reps.one (show Kd.M Kd.string _ _ _ (⟨#[115, 105, 110, 107]⟩ : ByteArray) [.string (⟨#[115, 105, 110, 107]⟩ : ByteArray)] from rfl) (Reps.one (show Kd.M Kd.string _ _ _ (⟨#[115, 111, 117, 114, 99, 101]⟩ : ByteArray) [.string (⟨#[115, 111, 117, 114, 99, 101]⟩ : ByteArray)] from rfl) (Reps.one (show Kd.M Kd.string _ _ _ (⟨#[117, 115, 101]⟩ : ByteArray) [.string (⟨#[117, 115, 101]⟩ : ByteArray)] from rfl) (Reps.none _ _))))))))); intro v110 w66 ho67 hb hg_ hnew_; clear hg_ hnew_; (first | rw [← Ny109.out] at ho67 | (simp only [Int.reduceToNat] at ho67; rw [← Ny109.out] at ho67)); replace HO_4 := am (Kd.N_elder' (by (with_reducible repeat (first | apply Kd.N_alloc | apply Kd.N_drewN | apply Kd.N_drew)); exact HO_4.out) (Kd.R_base ho67) hb); replace HL105_1 := am (Kd.V_elder' (pV HL105_1.out) (Kd.R_base ho67) hb); replace HL107_1 := am (Kd.V_elder' (pV HL107_1.out) (Kd.R_base ho67) hb); have HO111 := am (Kd.R_lower ho67 (below_size (pL HB.out))); replace BK106 := am (bb_ BK106.out hb); replace HR107_1 := am (Kd.C_below (by repeat (first | (with_reducible exact HR107_1.out) | (with_reducible refine Kd.C_alloc ?_ _) | (with_reducible refine Kd.C_drewN ?_ _) | (with_reducible refine Kd.C_drew ?_) | exact HR107_1.out)) hb); replace HB := am (bs_ HB.out hb); clear hb ho67; obtain ⟨hcz68_0, hcz68_1, hfz68_0, hfz68_1⟩ := bc2 BK106.out; obtain ⟨Ao69, co69, eo69⟩ := Kd.R_slice HO111.out; subst eo69) | ((with_reducible refine gate_callee (f := 13) rfl ?_); refine goesL_ (some 47) rfl rfl Try.func13 (by kernel_rfl) rfl #[.slice Ao69 y109.length co69, .string ((rd_T44 t102 x5_1).pred)] rfl (by (try simp only [List.map_toArray, List.map_cons, List.map_nil]); first | done | rfl | (simp only [List.length_drop, List.length_take]; rfl)) ?_; (with_reducible refine (lambrequinref09_In.calls k1 _ _ y109 ((rd_T44 t102 x5_1).pred) true _ ?side1 ?side2 A18.out).mono ?_); (case side1 => repeat (first | exact (Kd.R_reads' HO111.out).2.2 | (with_reducible refine Kd.C_alloc ?_ _) | (with_reducible refine Kd.C_drewN ?_ _) | (with_reducible refine Kd.C_drew ?_))); (case side2 => exact (Kd.R_reads' HO111.out).2.1); rintro e w' ⟨rfl, ⟨nd, rfl⟩⟩; refine ⟨_, rfl, ?_⟩; have p113 : 0 ≤ (0 : Int) := (by omega); have q113 : 0 < (((rd_T44 t102 x5_1).args).length : Int) := dt_; obtain ⟨ad113, e113, hx113_0, hx113_1, hx113_2⟩ := at_T28 ((Kd.V_reads' HL105_1.out).2.2) 0 p113 q113; (try rw [← Nbq22.out] at hx113_0); cases e113; have qi113 : (0 < ((rd_T44 t102 x5_1).args).length) = True := eq_true (by omega); (try rw [show ((0 : Int)).toNat = 0 from rfl] at hx113_0); (try rw [show 0 * 3 = 0 from rfl] at hx113_0); (try rw [Addr.add_zero'] at hx113_0); (try rw [show ((0 : Int)).toNat = 0 from rfl] at hx113_1); (try rw [show 0 * 3 = 0 from rfl] at hx113_1); (try rw [Addr.add_zero'] at hx113_1); (try rw [show ((0 : Int)).toNat = 0 from rfl] at hx113_2); (try rw [show 0 * 3 = 0 from rfl] at hx113_2); (try rw [Addr.add_zero'] at hx113_2); replace p113 := eq_true p113; replace q113 := eq_true q113; have p114 : 0 ≤ (0 : Int) := (by omega); have q114 : 0 < (((rd_T44 t102 x5_1).args).length : Int) := dt_; obtain ⟨ad114, e114, hx114_0, hx114_1, hx114_2⟩ := at_T28 ((Kd.V_reads' HL105_1.out).2.2) 0 p114 q114; (try rw [← Nbq22.out] at hx114_0); obtain rfl : ad113 = ad114 := (by injection e114); have qi114 : (0 < ((rd_T44 t102 x5_1).args).length) = True := eq_true (by omega); (try rw [show ((0 : Int)).toNat = 0 from rfl] at hx114_0); (try rw [show 0 * 3 = 0 from rfl] at hx114_0); (try rw [Addr.add_zero'] at hx114_0); (try rw [show ((0 : Int)).toNat = 0 from rfl] at hx114_1); (try rw [show 0 * 3 = 0 from rfl] at hx114_1); (try rw [Addr.add_zero'] at hx114_1); (try rw [show ((0 : Int)).toNat = 0 from rfl] at hx114_2); (try rw [show 0 * 3 = 0 from rfl] at hx114_2); (try rw [Addr.add_zero'] at hx114_2); replace p114 := eq_true p114; replace q114 := eq_true q114; have p115 : 0 ≤ (0 : Int) := (by omega); have q115 : 0 < (((rd_T44 t102 x5_1).args).length : Int) := dt_; obtain ⟨ad115, e115, hx115_0, hx115_1, hx115_2⟩ := at_T28 ((Kd.V_reads' HL105_1.out).2.2) 0 p115 q115; (try rw [← Nbq22.out] at hx115_0); obtain rfl : ad113 = ad115 := (by injection e115); have qi115 : (0 < ((rd_T44 t102 x5_1).args).length) = True := eq_true (by omega); (try rw [show ((0 : Int)).toNat = 0 from rfl] at hx115_0); (try rw [show 0 * 3 = 0 from rfl] at hx115_0); (try rw [Addr.add_zero'] at hx115_0); (try rw [show ((0 : Int)).toNat = 0 from rfl] at hx115_1); (try rw [show 0 * 3 = 0 from rfl] at hx115_1); (try rw [Addr.add_zero'] at hx115_1); (try rw [show ((0 : Int)).toNat = 0 from rfl] at hx115_2); (try rw [show 0 * 3 = 0 from rfl] at hx115_2); (try rw [Addr.add_zero'] at hx115_2); replace p115 := eq_true p115; replace q115 := eq_true q115))
                  go_roundg k1
                  case measure => have := HK1.out; omega
                  case rel => exact ⟨(wrap64 (x5_1 + 1)), rs_, H', ⟨by have := HK1.out; omega⟩, ⟨by (with_reducible repeat (first | apply Kd.N_alloc | apply Kd.N_drewN | apply Kd.N_drew)); exact Kd.N_mono HO_4.out (fun _ hk => trivial)⟩, ⟨pL HB.out⟩⟩
              ·rw [if_neg c21] at H
               exact absurd H (by simp)
             ·rw [if_neg c20] at H
              exact absurd H (by simp)
            ·rw [if_neg c19] at H
             exact absurd H (by simp)
           ·rw [if_neg c17] at H
            have c17b0 : (((rd_T44 t102 x5_1).pred).toList == ([102, 108, 111, 119] : List UInt8)) = false := beq_eq_false_iff_ne.mpr c17
            have c17b1 : (((rd_T44 t102 x5_1).pred).toList != ([102, 108, 111, 119] : List UInt8)) = true := bne_iff_ne.mpr c17
            obtain ⟨y116, hy116⟩ : ∃ y_ : List ByteArray, y_ = (([(⟨#[100, 101, 102]⟩ : ByteArray), (⟨#[102, 108, 111, 119]⟩ : ByteArray), (⟨#[110, 101, 120, 116]⟩ : ByteArray), (⟨#[110, 111, 100, 101]⟩ : ByteArray), (⟨#[115, 105, 110, 107]⟩ : ByteArray), (⟨#[115, 111, 117, 114, 99, 101]⟩ : ByteArray), (⟨#[117, 115, 101]⟩ : ByteArray)] : List ByteArray)) := ⟨_, rfl⟩
            replace H : ((lambrequinref09_In.f k1 y116 ((rd_T44 t102 x5_1).pred)).bind fun t119 => (if t119 = true then (if (((rd_T44 t102 x5_1).args).length : Int) = 1 then (if 0 < (((rd_T44 t102 x5_1).args).length : Int) then (if (rd_T28 ((rd_T44 t102 x5_1).args) 0).isSym = true then (none) else (if ((rd_T28 ((rd_T44 t102 x5_1).args) 0).n) < 0 then (none) else (if ((rd_T28 ((rd_T44 t102 x5_1).args) 0).n) ≥ (l0.length : Int) then (none) else (lambrequinlaw21_FactsSorted.l0 k1 l0 t101 t102 (wrap64 (x5_1 + 1)))))) else (none)) else (none)) else (none))) = some r := by first | (rw [hy116]; with_reducible exact H) | (have H2_ := (Option.bind_some _ _).symm.trans H; rw [hy116]; with_reducible exact H2_) | (have H2_ := (Option.bind_some _ _).symm.trans H; with_reducible exact H2_) | with_reducible exact H | (rw [hy116]; exact H) | exact H
            have Ny116 := am hy116
            clear hy116
            replace H := Option.bind_eq_some_iff.mp H
            obtain ⟨t119, A920, H⟩ := H
            replace H : (if t119 = true then (if (((rd_T44 t102 x5_1).args).length : Int) = 1 then (if 0 < (((rd_T44 t102 x5_1).args).length : Int) then (if (rd_T28 ((rd_T44 t102 x5_1).args) 0).isSym = true then (none) else (if ((rd_T28 ((rd_T44 t102 x5_1).args) 0).n) < 0 then (none) else (if ((rd_T28 ((rd_T44 t102 x5_1).args) 0).n) ≥ (l0.length : Int) then (none) else (lambrequinlaw21_FactsSorted.l0 k1 l0 t101 t102 (wrap64 (x5_1 + 1)))))) else (none)) else (none)) else (none)) = some r := H
            have A92 := am A920
            clear A920
            by_cases c93 : t119 = true
            ·subst c93
             have H1 : (if (((rd_T44 t102 x5_1).args).length : Int) = 1 then (if 0 < (((rd_T44 t102 x5_1).args).length : Int) then (if (rd_T28 ((rd_T44 t102 x5_1).args) 0).isSym = true then (none) else (if ((rd_T28 ((rd_T44 t102 x5_1).args) 0).n) < 0 then (none) else (if ((rd_T28 ((rd_T44 t102 x5_1).args) 0).n) ≥ (l0.length : Int) then (none) else (lambrequinlaw21_FactsSorted.l0 k1 l0 t101 t102 (wrap64 (x5_1 + 1)))))) else (none)) else (none)) = some r := by rw [if_pos rfl] at H; exact H
             clear H
             have H := H1
             clear H1
             by_cases c94 : (((rd_T44 t102 x5_1).args).length : Int) = 1
             ·rw [if_pos c94] at H
              have c94b0 : ((((rd_T44 t102 x5_1).args).length : Int) == 1) = true := beq_iff_eq.mpr c94
              have c94b1 : ((((rd_T44 t102 x5_1).args).length : Int) != 1) = false := bne_eq_false_iff_eq.mpr c94
              clear c94
              by_cases c95 : 0 < (((rd_T44 t102 x5_1).args).length : Int)
              ·rw [if_pos c95] at H
               have c95b0 : decide (0 < (((rd_T44 t102 x5_1).args).length : Int)) = true := decide_eq_true c95
               have c95b1 : decide (0 < ((rd_T44 t102 x5_1).args).length) = true := decide_eq_true (by omega)
               clear c95
               obtain ⟨bq96, hbq96⟩ : ∃ b_ : Bool, b_ = ((rd_T28 ((rd_T44 t102 x5_1).args) 0).isSym) := ⟨_, rfl⟩
               replace H : (if bq96 = true then (none) else (if ((rd_T28 ((rd_T44 t102 x5_1).args) 0).n) < 0 then (none) else (if ((rd_T28 ((rd_T44 t102 x5_1).args) 0).n) ≥ (l0.length : Int) then (none) else (lambrequinlaw21_FactsSorted.l0 k1 l0 t101 t102 (wrap64 (x5_1 + 1)))))) = some r := by rw [← hbq96] at H; exact H
               have Nbq96 := am hbq96
               clear hbq96
               by_cases c97 : bq96 = true
               ·rw [if_pos c97] at H
                exact absurd H (by simp)
               ·replace c97 := Bool.eq_false_iff.mpr c97
                subst c97
                have H1 : (if ((rd_T28 ((rd_T44 t102 x5_1).args) 0).n) < 0 then (none) else (if ((rd_T28 ((rd_T44 t102 x5_1).args) 0).n) ≥ (l0.length : Int) then (none) else (lambrequinlaw21_FactsSorted.l0 k1 l0 t101 t102 (wrap64 (x5_1 + 1))))) = some r := by rw [if_neg (show ¬ (false = true) by decide)] at H; exact H
                clear H
                have H := H1
                clear H1
                by_cases c109 : ((rd_T28 ((rd_T44 t102 x5_1).args) 0).n) < 0
                ·rw [if_pos c109] at H
                 exact absurd H (by simp)
                ·rw [if_neg c109] at H
                 have c109b0 : decide (((rd_T28 ((rd_T44 t102 x5_1).args) 0).n) < 0) = false := decide_eq_false c109
                 clear c109
                 by_cases c121 : ((rd_T28 ((rd_T44 t102 x5_1).args) 0).n) ≥ (l0.length : Int)
                 ·rw [if_pos c121] at H
                  exact absurd H (by simp)
                 ·rw [if_neg c121] at H
                  have c121b0 : decide ((l0.length : Int) ≤ ((rd_T28 ((rd_T44 t102 x5_1).args) 0).n)) = false := decide_eq_false c121
                  clear c121
                  have H' := am H
                  clear H
                  obtain ⟨Ao133, co133, eo133⟩ := Kd.N_slice HO_4.out
                  subst eo133
                  have p105 : 0 ≤ (x5_1 : Int) := dt_
                  have q105 : x5_1 < (t102.length : Int) := dt_
                  obtain ⟨ad105, A105_1, c105_1, e105, hx105_0, hx105_1, hl105_1, hi105_1⟩ := at_T44 (Kd.N_reads' HO_4.out).2.2 x5_1 p105 q105
                  cases e105
                  obtain ⟨ce105, hce105, hMe105, hcc105⟩ := Kd.N_get HO_4.out z44 x5_1 p105 (by first | exact q105 | exact dt_ | (have e_ := (Kd.N_reads' HO_4.out).1; omega))
                  obtain ⟨ua105_1, uc105_1, rfl, ul105_1, ge105_1⟩ := k44_openF hMe105
                  have hv105_1 := hcc105 1 _ rfl
                  rw [add_field _ _ 1 (by omega)] at hv105_1
                  replace hv105_1 := Option.some.inj (hv105_1.symm.trans hx105_1)
                  injection hv105_1 with hva_ hvn_ hvc_
                  rw [hva_] at ge105_1
                  rw [hvc_] at ul105_1
                  have HL105_1 := am (show Kd.V k28 28 _ w.heap.size _ _ ((rd_T44 t102 x5_1).args) from Kd.V_mk ul105_1 ge105_1)
                  clear hva_ hvn_ hvc_ ge105_1 ul105_1
                  clear hcc105 hce105
                  have HR105_1 := am hi105_1
                  have HC105_1 := am hl105_1
                  clear hi105_1 hl105_1
                  replace p105 := eq_true p105
                  replace q105 := eq_true q105
                  try go_wp2_with (first | ((with_reducible refine gate_dst (N := 6) rfl ?_); (try (refine gate_guard (by rfl) ?_; dsimp only)); refine box_event ?hg (N := 6) ?hd (cs := #[.string (⟨#[]⟩ : ByteArray), .slice none 0 0]) (t := 44) ?hr ?_; (case hd => rfl); (case hg => rfl); (case hr => first | (go_simp; done) | (go_simp; rfl)); intro gb106 hg w134 hbox hb; replace HO_4 := am (Kd.N_below (Kd.N_elderB (by (with_reducible repeat (first | apply Kd.N_alloc | apply Kd.N_drewN | apply Kd.N_drew)); exact HO_4.out) gb106 (Nat.le_of_eq hg.symm)) hb); replace HL105_1 := am (Kd.V_below (Kd.V_elderB (pV HL105_1.out) gb106 (Nat.le_of_eq hg.symm)) hb); replace HR105_1 := am (Kd.C_below (by repeat (first | (with_reducible exact HR105_1.out) | (with_reducible refine Kd.C_alloc ?_ _) | (with_reducible refine Kd.C_drewN ?_ _) | (with_reducible refine Kd.C_drew ?_) | exact HR105_1.out)) hb); have BK106 := am (hbox); have GW106 := am (gw_ hg HB.out); have GE106 := GW106; replace HB := am (bs_ HB.out hb); clear hb hbox hg; obtain ⟨hcz135_0, hcz135_1, hfz135_0, hfz135_1⟩ := bc2 BK106.out))
                  have n0_ : Aside0 (Kd.N k44 44 ((w134.setCell ⟨gb106, 0, none⟩ (.string ((rd_T44 t102 x5_1).pred))).setCell ⟨gb106, 1, none⟩ (.slice A105_1 ((rd_T44 t102 x5_1).args).length c105_1)) w.heap.size (fun k_ => k_ ≠ gb106) (.slice (some ad105) t102.length co133) t102) := ⟨by (with_reducible repeat (first | apply Kd.N_alloc | apply Kd.N_drewN | apply Kd.N_drew)); exact Kd.N_mono (Kd.N_far (p := ⟨gb106, 1, none⟩) (Kd.N_far (p := ⟨gb106, 0, none⟩) (Kd.N_mono HO_4.out (fun k_ hk => (⟨hk, hk.2⟩ : _ ∧ k_ ≠ gb106))) (fun _ hk => hk.2) _) (fun _ hk => hk.2) _) (fun _ hk => hk.1.2)⟩
                  have n1_ : Aside0 (Kd.V k28 28 ((w134.setCell ⟨gb106, 0, none⟩ (.string ((rd_T44 t102 x5_1).pred))).setCell ⟨gb106, 1, none⟩ (.slice A105_1 ((rd_T44 t102 x5_1).args).length c105_1)) w.heap.size (fun k_ => some k_ ≠ (.slice (some ad105) t102.length co133 : Value).ownBlock ∧ k_ ≠ gb106) (.slice A105_1 ((rd_T44 t102 x5_1).args).length c105_1) ((rd_T44 t102 x5_1).args)) := ⟨by (with_reducible repeat (first | apply Va | apply Vn | apply Vd)); exact Kd.V_mono (Kd.V_far (p := ⟨gb106, 1, none⟩) (Kd.V_far (p := ⟨gb106, 0, none⟩) (Kd.V_mono HL105_1.out (fun k_ hk => (⟨hk, hk.2⟩ : _ ∧ k_ ≠ gb106))) (fun _ hk => hk.2) _) (fun _ hk => hk.2) _) (fun _ hk => ⟨hk.1.1.2, hk.1.2⟩)⟩
                  have n2_ : Aside0 (((w134.setCell ⟨gb106, 0, none⟩ (.string ((rd_T44 t102 x5_1).pred))).setCell ⟨gb106, 1, none⟩ (.slice A105_1 ((rd_T44 t102 x5_1).args).length c105_1)).heap[gb106]? = some (.cells #[.string ((rd_T44 t102 x5_1).pred), .slice A105_1 ((rd_T44 t102 x5_1).args).length c105_1] 44 (0, 0))) := ⟨by (with_reducible repeat (first | refine bN ?_ _ | refine bD ?_ | refine bA ?_ _)); exact bq2 BK106.out⟩
                  have n3_ : Aside0 (Below w.heap.size w ((w134.setCell ⟨gb106, 0, none⟩ (.string ((rd_T44 t102 x5_1).pred))).setCell ⟨gb106, 1, none⟩ (.slice A105_1 ((rd_T44 t102 x5_1).args).length c105_1))) := ⟨pL HB.out⟩
                  (try clear HO_4)
                  (try clear HL105_1)
                  (try clear BK106)
                  (try clear HB)
                  generalize ((w134.setCell ⟨gb106, 0, none⟩ (.string ((rd_T44 t102 x5_1).pred))).setCell ⟨gb106, 1, none⟩ (.slice A105_1 ((rd_T44 t102 x5_1).args).length c105_1)) = w136 at n0_ n1_ n2_ n3_ ⊢
                  have HO_4 := n0_
                  have HL105_1 := n1_
                  have BK106 := n2_
                  have HB := n3_
                  clear n0_ n1_ n2_ n3_
                  replace HO_4 := am (Kd.N_drew HO_4.out)
                  replace HL105_1 := am (Kd.V_drew HL105_1.out)
                  replace BK106 := am (blk_drew BK106.out)
                  replace HB := am (below_drew1 HB.out)
                  have p107 : 0 ≤ ((ji11) : Int) := dt_
                  have q107 : (ji11) < (t102.length : Int) := dt_
                  obtain ⟨ad107, A107_1, c107_1, e107, hx107_0, hx107_1, hl107_1, hi107_1⟩ := at_T44 (Kd.N_reads' HO_4.out).2.2 (ji11) p107 q107
                  obtain rfl : ad105 = ad107 := (by injection e107)
                  obtain ⟨ce107, hce107, hMe107, hcc107⟩ := Kd.N_get HO_4.out z44 (ji11) p107 (by first | exact q107 | exact dt_ | (have e_ := (Kd.N_reads' HO_4.out).1; omega))
                  obtain ⟨ua107_1, uc107_1, rfl, ul107_1, ge107_1⟩ := k44_openF hMe107
                  have hv107_1 := hcc107 1 _ rfl
                  rw [add_field _ _ 1 (by omega)] at hv107_1
                  replace hv107_1 := Option.some.inj (hv107_1.symm.trans hx107_1)
                  injection hv107_1 with hva_ hvn_ hvc_
                  rw [hva_] at ge107_1
                  rw [hvc_] at ul107_1
                  have HL107_1 := am (show Kd.V k28 28 _ w.heap.size _ _ ((rd_T44 t102 (ji11)).args) from Kd.V_mk ul107_1 ge107_1)
                  clear hva_ hvn_ hvc_ ge107_1 ul107_1
                  clear hcc107 hce107
                  have HR107_1 := am hi107_1
                  have HC107_1 := am hl107_1
                  clear hi107_1 hl107_1
                  replace p107 := eq_true p107
                  replace q107 := eq_true q107
                  refine start_ (n := 12) (S := fun w' => w'.cell? ⟨gb106, 0, none⟩ = some (.string ((rd_T44 t102 x5_1).pred)) ∧ w'.cell? ⟨gb106, 1, none⟩ = some (.slice A105_1 ((rd_T44 t102 x5_1).args).length c105_1) ∧ w'.cell? (ad105.add (((ji11)).toNat * 2)) = some (.string ((rd_T44 t102 (ji11)).pred)) ∧ w'.cell? ⟨(ad105.add (((ji11)).toNat * 2)).block, (ad105.add (((ji11)).toNat * 2)).off + 1, none⟩ = some (.slice A107_1 ((rd_T44 t102 (ji11)).args).length c107_1)) (ds := []) (bl 12 0) (by kernel_rfl) rfl rfl ⟨(blk_cell BK106.out 0).trans rfl, (blk_cell BK106.out 1).trans rfl, hx107_0, hx107_1⟩ (fun hHeld => ?_); refine with_tabW lambrequinlaw21_FactsSorted.tab9 lambrequinlaw21_FactsSorted.bits9 (fun HT_ HW_ => ?_)
                  generalize w136.drew = w137 at HO_4 HL105_1 BK106 HB HL107_1 HR107_1 hx107_0 hx107_1 hHeld ⊢
                  refine pure_ (i := 0) (N := some 26) (v := ?_) (a' := ?_) (bl 12 1) rfl rfl (any_of HT_.out (by kernel_rfl)) (fun _ _ _ h => h) (Or.inl ⟨by rfl, ?_⟩) ?_ ?_
                  rotate_left
                  ·intro w'
                   go_simp
                   with_reducible rfl
                  rotate_left
                  ·simp only [Act.put, sA, sZ, sS, i64_w, i32_w]
                   rfl
                  refine pure_ (i := 1) (N := some 27) (v := ?_) (a' := ?_) (bl 12 3) rfl rfl (any_of HT_.out (by kernel_rfl)) (fun _ _ _ h => h) (Or.inl ⟨by rfl, ?_⟩) ?_ ?_
                  rotate_left
                  ·intro w'
                   go_simp
                   with_reducible rfl
                  rotate_left
                  ·simp only [Act.put, sA, sZ, sS, i64_w, i32_w]
                   rfl
                  refine pure_ (i := 2) (N := some 28) (v := ?_) (a' := ?_) (bl 12 7) rfl rfl (any_of HT_.out (by kernel_rfl)) (fun _ _ _ h => h) (Or.inl ⟨by rfl, ?_⟩) ?_ ?_
                  rotate_left
                  ·intro w'
                   go_simp
                   with_reducible rfl
                  rotate_left
                  ·simp only [Act.put, sA, sZ, sS, i64_w, i32_w]
                   rfl
                  refine pure_ (i := 3) (N := some 29) (v := ?_) (a' := ?_) (bl 12 15) rfl rfl (any_of HT_.out (by kernel_rfl)) (fun _ _ _ h => h) (Or.inl ⟨by rfl, ?_⟩) ?_ ?_
                  rotate_left
                  ·intro w'
                   go_simp
                   with_reducible rfl
                  rotate_left
                  ·simp only [Act.put, sA, sZ, sS, i64_w, i32_w]
                   rfl
                  refine pure_ (i := 4) (N := some 30) (v := ?_) (a' := ?_) (bl 12 31) rfl rfl (any_of HT_.out (by kernel_rfl)) (fun _ _ _ h => h) (Or.inl ⟨by rfl, ?_⟩) ?_ ?_
                  rotate_left
                  ·intro w'
                   go_simp
                   with_reducible rfl
                  rotate_left
                  ·simp only [Act.put, sA, sZ, sS, i64_w, i32_w]
                   rfl
                  refine pure_ (i := 5) (N := some 31) (v := ?_) (a' := ?_) (bl 12 63) rfl rfl (any_of HT_.out (by kernel_rfl)) (fun _ _ _ h => h) (Or.inl ⟨by rfl, ?_⟩) ?_ ?_
                  rotate_left
                  ·intro w'
                   go_simp
                   with_reducible rfl
                  rotate_left
                  ·simp only [Act.put, sA, sZ, sS, i64_w, i32_w]
                   rfl
                  refine pure_ (i := 6) (N := some 32) (v := ?_) (a' := ?_) (bl 12 127) rfl rfl (any_of HT_.out (by kernel_rfl)) (fun _ _ _ h => h) (Or.inl ⟨by rfl, ?_⟩) ?_ ?_
                  rotate_left
                  ·intro w'
                   go_simp
                   with_reducible rfl
                  rotate_left
                  ·simp only [Act.put, sA, sZ, sS, i64_w, i32_w]
                   rfl
                  refine take_ (i := 7) (N := some 33) (v := ?_) (a' := ?_) (bl 12 255) rfl rfl (take_ofW HT_.out HW_.out (by kernel_rfl)) (fun _ _ _ h => h) (Or.inl ⟨by rfl, ?_⟩) hHeld ?_ ?_
                  rotate_left
                  ·rintro w' ⟨s0, s1, s2, s3⟩
                   go_simp
                   with_reducible rfl
                  rotate_left
                  ·simp only [Act.put, sA, sZ, sS, i64_w, i32_w]
                   rfl
                  refine take_ (i := 8) (N := some 34) (v := ?_) (a' := ?_) (bl 12 511) rfl rfl (take_ofW HT_.out HW_.out (by kernel_rfl)) (fun _ _ _ h => h) (Or.inl ⟨by rfl, ?_⟩) hHeld ?_ ?_
                  rotate_left
                  ·rintro w' ⟨s0, s1, s2, s3⟩
                   go_simp
                   with_reducible rfl
                  rotate_left
                  ·simp only [Act.put, sA, sZ, sS, i64_w, i32_w]
                   rfl
                  refine one_ (i := 9) (N := some 35) (bl 12 1023) rfl rfl (one_of HT_.out (by kernel_rfl)) (by decide) (fun K hK => ?_)
                  refine goes_ Try.func16 (by kernel_rfl) rfl #[.agg #[.string ((rd_T44 t102 (ji11)).pred), .slice A107_1 ((rd_T44 t102 (ji11)).args).length c107_1], .agg #[.string ((rd_T44 t102 x5_1).pred), .slice A105_1 ((rd_T44 t102 x5_1).args).length c105_1]] (by rfl) rfl rfl (by (try simp only [List.map_toArray, List.map_cons, List.map_nil]); first | done | (simp only [hji11]; rfl) | rfl | (simp only [List.length_drop, List.length_take]; rfl)) ?_
                  with_reducible refine (lambrequinref14_Compare.calls k1 ((rd_T44 t102 (ji11)).pred) _ _ ((rd_T44 t102 (ji11)).args) ((rd_T44 t102 x5_1).pred) _ _ ((rd_T44 t102 x5_1).args) t108 _ ?side1 ?side2 ?side3 ?side4 A14.out).mono ?_
                  (case side1 => repeat (first | exact (by repeat (first | (with_reducible exact HR107_1.out) | (with_reducible refine Kd.C_alloc ?_ _) | (with_reducible refine Kd.C_drewN ?_ _) | (with_reducible refine Kd.C_drew ?_) | exact HR107_1.out)) | (with_reducible refine Kd.C_alloc ?_ _) | (with_reducible refine Kd.C_drewN ?_ _) | (with_reducible refine Kd.C_drew ?_)))
                  (case side2 => exact HC107_1.out)
                  (case side3 => repeat (first | exact ((Kd.V_reads' HL105_1.out).2.2) | (with_reducible refine Kd.C_alloc ?_ _) | (with_reducible refine Kd.C_drewN ?_ _) | (with_reducible refine Kd.C_drew ?_)))
                  (case side4 => exact HC105_1.out)
                  rintro e w138 ⟨rfl, hb⟩
                  have HS2_ := (hb.cell (blt_ (hHeld.2.2.1))).trans (hHeld.2.2.1)
                  have HS3_ := (hb.cell (blt_ (hHeld.2.2.2))).trans (hHeld.2.2.2)
                  refine ⟨_, rfl, ?_⟩
                  replace HO_4 := am (Kd.N_below (by (with_reducible repeat (first | apply Kd.N_alloc | apply Kd.N_drewN | apply Kd.N_drew)); exact HO_4.out) hb)
                  replace HL105_1 := am (Kd.V_below (pV HL105_1.out) hb)
                  replace HL107_1 := am (Kd.V_below (pV HL107_1.out) hb)
                  replace BK106 := am (bb_ BK106.out hb)
                  replace HR107_1 := am (Kd.C_below (by repeat (first | (with_reducible exact HR107_1.out) | (with_reducible refine Kd.C_alloc ?_ _) | (with_reducible refine Kd.C_drewN ?_ _) | (with_reducible refine Kd.C_drew ?_) | exact HR107_1.out)) hb)
                  replace HB := am (bs_ HB.out hb)
                  (try clear hb)
                  (try clear hb2)
                  (try clear hk)
                  (try clear hi)
                  refine hK.out _ _ ⟨(blk_cell BK106.out 0).trans rfl, (blk_cell BK106.out 1).trans rfl, HS2_, HS3_⟩ (fun hHeld => ?_)
                  clear hK K
                  refine norm_ (a' := ?_) ?_ ?_
                  rotate_left
                  ·show Act.put _ (some 35) _ = _
                   simp only [Act.put, sA, sZ, sS, i64_w, i32_w]
                   rfl
                  refine pure_ (i := 10) (N := some 36) (v := ?_) (a' := ?_) (bl 12 2047) rfl rfl (any_of HT_.out (by kernel_rfl)) (fun _ _ _ h => h) (Or.inl ⟨by rfl, ?_⟩) ?_ ?_
                  rotate_left
                  ·intro w'
                   go_simp
                   with_reducible rfl
                  rotate_left
                  ·simp only [Act.put, sA, sZ, sS, i64_w, i32_w]
                   rfl
                  refine pure_ (i := 11) (N := some 37) (v := ?_) (a' := ?_) (bl 12 4095) rfl rfl (any_of HT_.out (by kernel_rfl)) (fun _ _ _ h => h) (Or.inl ⟨by rfl, ?_⟩) ?_ ?_
                  rotate_left
                  ·intro w'
                   go_simp
                   with_reducible rfl
                  rotate_left
                  ·simp only [Act.put, sA, sZ, sS, i64_w, i32_w]
                   rfl
                  refine done_ (done_of HT_.out (by kernel_rfl)) ?_
                  obtain ⟨hcz139_0, hcz139_1, hfz139_0, hfz139_1⟩ := bc2 BK106.out
                  try go_wp2_with (first | ((with_reducible refine gate_dst (N := 44) rfl ?_); (try (refine gate_guard (by rfl) ?_; dsimp only)); refine Kd.R_lit Kd.string _ 9 ?hg (N := 44) ?hd (xs := ([(⟨#[100, 101, 102]⟩ : ByteArray), (⟨#[102, 108, 111, 119]⟩ : ByteArray), (⟨#[110, 101, 120, 116]⟩ : ByteArray), (⟨#[110, 111, 100, 101]⟩ : ByteArray), (⟨#[115, 105, 110, 107]⟩ : ByteArray), (⟨#[115, 111, 117, 114, 99, 101]⟩ : ByteArray), (⟨#[117, 115, 101]⟩ : ByteArray)] : List ByteArray)) (inner := [.string (⟨#[100, 101, 102]⟩ : ByteArray), .string (⟨#[102, 108, 111, 119]⟩ : ByteArray), .string (⟨#[110, 101, 120, 116]⟩ : ByteArray), .string (⟨#[110, 111, 100, 101]⟩ : ByteArray), .string (⟨#[115, 105, 110, 107]⟩ : ByteArray), .string (⟨#[115, 111, 117, 114, 99, 101]⟩ : ByteArray), .string (⟨#[117, 115, 101]⟩ : ByteArray)]) (ok := fun _ => True) (okp := fun _ => True) ?hr ?hp (fun _ hk => hk) trivial (Below.refl _ _) (Nat.le_refl _) (by simp) ?_; (case hd => rfl); (case hg => rfl); (case hr => first | (go_simp; done) | (go_simp; rfl)); (case hp => exact (Reps.one (show Kd.M Kd.string _ _ _ (⟨#[100, 101, 102]⟩ : ByteArray) [.string (⟨#[100, 101, 102]⟩ : ByteArray)] from rfl) (Reps.one (show Kd.M Kd.string _ _ _ (⟨#[102, 108, 111, 119]⟩ : ByteArray) [.string (⟨#[102, 108, 111, 119]⟩ : ByteArray)] from rfl) (Reps.one (show Kd.M Kd.string _ _ _ (⟨#[110, 101, 120, 116]⟩ : ByteArray) [.string (⟨#[110, 101, 120, 116]⟩ : ByteArray)] from rfl) (Reps.one (show Kd.M Kd.string _ _ _ (⟨#[110, 111, 100, 101]⟩ : ByteArray) [.string (⟨#[110, 111, 100, 101]⟩ : ByteArray)] from rfl) (Reps.one (show Kd.M Kd.string _ _ _ (⟨#[115, 105, 110, 107]⟩ : ByteArray) [.string (⟨#[115, 105, 110, 107]⟩ : ByteArray)] from rfl) (Reps.one (show Kd.M Kd.string _ _ _ (⟨#[115, 111, 117, 114, 99, 101]⟩ : ByteArray) [.string (⟨#[115, 111, 117, 114, 99, 101]⟩ : ByteArray)] from rfl) (Reps.one (show Kd.M Kd.string _ _ _ (⟨#[117, 115, 101]⟩ : ByteArray) [.string (⟨#[117, 115, 101]⟩ : ByteArray)] from rfl) (Reps.none _ _))))))))); intro v117 w140 ho141 hb hg_ hnew_; clear hg_ hnew_; (first | rw [← Ny116.out] at ho141 | (simp only [Int.reduceToNat] at ho141; rw [← Ny116.out] at ho141)); replace HO_4 := am (Kd.N_elder' (by (with_reducible repeat (first | apply Kd.N_alloc | apply Kd.N_drewN | apply Kd.N_drew)); exact HO_4.out) (Kd.R_base ho141) hb); replace HL105_1 := am (Kd.V_elder' (pV HL105_1.out) (Kd.R_base ho141) hb); replace HL107_1 := am (Kd.V_elder' (pV HL107_1.out) (Kd.R_base ho141) hb); have HO118 := am (Kd.R_lower ho141 (below_size (pL HB.out))); replace BK106 := am (bb_ BK106.out hb); replace HR107_1 := am (Kd.C_below (by repeat (first | (with_reducible exact HR107_1.out) | (with_reducible refine Kd.C_alloc ?_ _) | (with_reducible refine Kd.C_drewN ?_ _) | (with_reducible refine Kd.C_drew ?_) | exact HR107_1.out)) hb); replace HB := am (bs_ HB.out hb); clear hb ho141; obtain ⟨hcz142_0, hcz142_1, hfz142_0, hfz142_1⟩ := bc2 BK106.out; obtain ⟨Ao143, co143, eo143⟩ := Kd.R_slice HO118.out; subst eo143) | ((with_reducible refine gate_callee (f := 13) rfl ?_); refine goesL_ (some 47) rfl rfl Try.func13 (by kernel_rfl) rfl #[.slice Ao143 y116.length co143, .string ((rd_T44 t102 x5_1).pred)] rfl (by (try simp only [List.map_toArray, List.map_cons, List.map_nil]); first | done | rfl | (simp only [List.length_drop, List.length_take]; rfl)) ?_; (with_reducible refine (lambrequinref09_In.calls k1 _ _ y116 ((rd_T44 t102 x5_1).pred) true _ ?side1 ?side2 A92.out).mono ?_); (case side1 => repeat (first | exact (Kd.R_reads' HO118.out).2.2 | (with_reducible refine Kd.C_alloc ?_ _) | (with_reducible refine Kd.C_drewN ?_ _) | (with_reducible refine Kd.C_drew ?_))); (case side2 => exact (Kd.R_reads' HO118.out).2.1); rintro e w' ⟨rfl, ⟨nd, rfl⟩⟩; refine ⟨_, rfl, ?_⟩; have p120 : 0 ≤ (0 : Int) := (by omega); have q120 : 0 < (((rd_T44 t102 x5_1).args).length : Int) := dt_; obtain ⟨ad120, e120, hx120_0, hx120_1, hx120_2⟩ := at_T28 ((Kd.V_reads' HL105_1.out).2.2) 0 p120 q120; (try rw [← Nbq96.out] at hx120_0); cases e120; have qi120 : (0 < ((rd_T44 t102 x5_1).args).length) = True := eq_true (by omega); (try rw [show ((0 : Int)).toNat = 0 from rfl] at hx120_0); (try rw [show 0 * 3 = 0 from rfl] at hx120_0); (try rw [Addr.add_zero'] at hx120_0); (try rw [show ((0 : Int)).toNat = 0 from rfl] at hx120_1); (try rw [show 0 * 3 = 0 from rfl] at hx120_1); (try rw [Addr.add_zero'] at hx120_1); (try rw [show ((0 : Int)).toNat = 0 from rfl] at hx120_2); (try rw [show 0 * 3 = 0 from rfl] at hx120_2); (try rw [Addr.add_zero'] at hx120_2); replace p120 := eq_true p120; replace q120 := eq_true q120; have p121 : 0 ≤ (0 : Int) := (by omega); have q121 : 0 < (((rd_T44 t102 x5_1).args).length : Int) := dt_; obtain ⟨ad121, e121, hx121_0, hx121_1, hx121_2⟩ := at_T28 ((Kd.V_reads' HL105_1.out).2.2) 0 p121 q121; (try rw [← Nbq96.out] at hx121_0); obtain rfl : ad120 = ad121 := (by injection e121); have qi121 : (0 < ((rd_T44 t102 x5_1).args).length) = True := eq_true (by omega); (try rw [show ((0 : Int)).toNat = 0 from rfl] at hx121_0); (try rw [show 0 * 3 = 0 from rfl] at hx121_0); (try rw [Addr.add_zero'] at hx121_0); (try rw [show ((0 : Int)).toNat = 0 from rfl] at hx121_1); (try rw [show 0 * 3 = 0 from rfl] at hx121_1); (try rw [Addr.add_zero'] at hx121_1); (try rw [show ((0 : Int)).toNat = 0 from rfl] at hx121_2); (try rw [show 0 * 3 = 0 from rfl] at hx121_2); (try rw [Addr.add_zero'] at hx121_2); replace p121 := eq_true p121; replace q121 := eq_true q121; have p122 : 0 ≤ (0 : Int) := (by omega); have q122 : 0 < (((rd_T44 t102 x5_1).args).length : Int) := dt_; obtain ⟨ad122, e122, hx122_0, hx122_1, hx122_2⟩ := at_T28 ((Kd.V_reads' HL105_1.out).2.2) 0 p122 q122; (try rw [← Nbq96.out] at hx122_0); obtain rfl : ad120 = ad122 := (by injection e122); have qi122 : (0 < ((rd_T44 t102 x5_1).args).length) = True := eq_true (by omega); (try rw [show ((0 : Int)).toNat = 0 from rfl] at hx122_0); (try rw [show 0 * 3 = 0 from rfl] at hx122_0); (try rw [Addr.add_zero'] at hx122_0); (try rw [show ((0 : Int)).toNat = 0 from rfl] at hx122_1); (try rw [show 0 * 3 = 0 from rfl] at hx122_1); (try rw [Addr.add_zero'] at hx122_1); (try rw [show ((0 : Int)).toNat = 0 from rfl] at hx122_2); (try rw [show 0 * 3 = 0 from rfl] at hx122_2); (try rw [Addr.add_zero'] at hx122_2); replace p122 := eq_true p122; replace q122 := eq_true q122))
                  go_roundg k1
                  case measure => have := HK1.out; omega
                  case rel => exact ⟨(wrap64 (x5_1 + 1)), rs_, H', ⟨by have := HK1.out; omega⟩, ⟨by (with_reducible repeat (first | apply Kd.N_alloc | apply Kd.N_drewN | apply Kd.N_drew)); exact Kd.N_mono HO_4.out (fun _ hk => trivial)⟩, ⟨pL HB.out⟩⟩
              ·rw [if_neg c95] at H
               exact absurd H (by simp)
             ·rw [if_neg c94] at H
              exact absurd H (by simp)
            ·rw [if_neg c93] at H
             exact absurd H (by simp)
          ·rw [if_neg c16] at H
           have c16b0 : (((rd_T44 t102 x5_1).pred).toList == ([110, 111, 100, 101] : List UInt8)) = false := beq_eq_false_iff_ne.mpr c16
           have c16b1 : (((rd_T44 t102 x5_1).pred).toList != ([110, 111, 100, 101] : List UInt8)) = true := bne_iff_ne.mpr c16
           by_cases c166 : ((rd_T44 t102 x5_1).pred).toList = ([102, 108, 111, 119] : List UInt8)
           ·rw [if_pos c166] at H
            have c166b0 : (((rd_T44 t102 x5_1).pred).toList == ([102, 108, 111, 119] : List UInt8)) = true := beq_iff_eq.mpr c166
            have c166b1 : (((rd_T44 t102 x5_1).pred).toList != ([102, 108, 111, 119] : List UInt8)) = false := bne_eq_false_iff_eq.mpr c166
            clear c166
            obtain ⟨y123, hy123⟩ : ∃ y_ : List ByteArray, y_ = (([(⟨#[100, 101, 102]⟩ : ByteArray), (⟨#[102, 108, 111, 119]⟩ : ByteArray), (⟨#[110, 101, 120, 116]⟩ : ByteArray), (⟨#[110, 111, 100, 101]⟩ : ByteArray), (⟨#[115, 105, 110, 107]⟩ : ByteArray), (⟨#[115, 111, 117, 114, 99, 101]⟩ : ByteArray), (⟨#[117, 115, 101]⟩ : ByteArray)] : List ByteArray)) := ⟨_, rfl⟩
            replace H : ((lambrequinref09_In.f k1 y123 ((rd_T44 t102 x5_1).pred)).bind fun t126 => (if t126 = true then (if (((rd_T44 t102 x5_1).args).length : Int) = 3 then (if 0 < (((rd_T44 t102 x5_1).args).length : Int) then (if (rd_T28 ((rd_T44 t102 x5_1).args) 0).isSym = true then (none) else (if ((rd_T28 ((rd_T44 t102 x5_1).args) 0).n) < 0 then (none) else (if ((rd_T28 ((rd_T44 t102 x5_1).args) 0).n) ≥ (l0.length : Int) then (none) else (lambrequinlaw21_FactsSorted.l0 k1 l0 t101 t102 (wrap64 (x5_1 + 1)))))) else (none)) else (none)) else (none))) = some r := by first | (rw [hy123]; with_reducible exact H) | (have H2_ := (Option.bind_some _ _).symm.trans H; rw [hy123]; with_reducible exact H2_) | (have H2_ := (Option.bind_some _ _).symm.trans H; with_reducible exact H2_) | with_reducible exact H | (rw [hy123]; exact H) | exact H
            have Ny123 := am hy123
            clear hy123
            replace H := Option.bind_eq_some_iff.mp H
            obtain ⟨t126, A1670, H⟩ := H
            replace H : (if t126 = true then (if (((rd_T44 t102 x5_1).args).length : Int) = 3 then (if 0 < (((rd_T44 t102 x5_1).args).length : Int) then (if (rd_T28 ((rd_T44 t102 x5_1).args) 0).isSym = true then (none) else (if ((rd_T28 ((rd_T44 t102 x5_1).args) 0).n) < 0 then (none) else (if ((rd_T28 ((rd_T44 t102 x5_1).args) 0).n) ≥ (l0.length : Int) then (none) else (lambrequinlaw21_FactsSorted.l0 k1 l0 t101 t102 (wrap64 (x5_1 + 1)))))) else (none)) else (none)) else (none)) = some r := H
            have A167 := am A1670
            clear A1670
            by_cases c168 : t126 = true
            ·subst c168
             have H1 : (if (((rd_T44 t102 x5_1).args).length : Int) = 3 then (if 0 < (((rd_T44 t102 x5_1).args).length : Int) then (if (rd_T28 ((rd_T44 t102 x5_1).args) 0).isSym = true then (none) else (if ((rd_T28 ((rd_T44 t102 x5_1).args) 0).n) < 0 then (none) else (if ((rd_T28 ((rd_T44 t102 x5_1).args) 0).n) ≥ (l0.length : Int) then (none) else (lambrequinlaw21_FactsSorted.l0 k1 l0 t101 t102 (wrap64 (x5_1 + 1)))))) else (none)) else (none)) = some r := by rw [if_pos rfl] at H; exact H
             clear H
             have H := H1
             clear H1
             by_cases c169 : (((rd_T44 t102 x5_1).args).length : Int) = 3
             ·rw [if_pos c169] at H
              have c169b0 : ((((rd_T44 t102 x5_1).args).length : Int) == 3) = true := beq_iff_eq.mpr c169
              have c169b1 : ((((rd_T44 t102 x5_1).args).length : Int) != 3) = false := bne_eq_false_iff_eq.mpr c169
              clear c169
              by_cases c170 : 0 < (((rd_T44 t102 x5_1).args).length : Int)
              ·rw [if_pos c170] at H
               have c170b0 : decide (0 < (((rd_T44 t102 x5_1).args).length : Int)) = true := decide_eq_true c170
               have c170b1 : decide (0 < ((rd_T44 t102 x5_1).args).length) = true := decide_eq_true (by omega)
               clear c170
               obtain ⟨bq171, hbq171⟩ : ∃ b_ : Bool, b_ = ((rd_T28 ((rd_T44 t102 x5_1).args) 0).isSym) := ⟨_, rfl⟩
               replace H : (if bq171 = true then (none) else (if ((rd_T28 ((rd_T44 t102 x5_1).args) 0).n) < 0 then (none) else (if ((rd_T28 ((rd_T44 t102 x5_1).args) 0).n) ≥ (l0.length : Int) then (none) else (lambrequinlaw21_FactsSorted.l0 k1 l0 t101 t102 (wrap64 (x5_1 + 1)))))) = some r := by rw [← hbq171] at H; exact H
               have Nbq171 := am hbq171
               clear hbq171
               by_cases c172 : bq171 = true
               ·rw [if_pos c172] at H
                exact absurd H (by simp)
               ·replace c172 := Bool.eq_false_iff.mpr c172
                subst c172
                have H1 : (if ((rd_T28 ((rd_T44 t102 x5_1).args) 0).n) < 0 then (none) else (if ((rd_T28 ((rd_T44 t102 x5_1).args) 0).n) ≥ (l0.length : Int) then (none) else (lambrequinlaw21_FactsSorted.l0 k1 l0 t101 t102 (wrap64 (x5_1 + 1))))) = some r := by rw [if_neg (show ¬ (false = true) by decide)] at H; exact H
                clear H
                have H := H1
                clear H1
                by_cases c184 : ((rd_T28 ((rd_T44 t102 x5_1).args) 0).n) < 0
                ·rw [if_pos c184] at H
                 exact absurd H (by simp)
                ·rw [if_neg c184] at H
                 have c184b0 : decide (((rd_T28 ((rd_T44 t102 x5_1).args) 0).n) < 0) = false := decide_eq_false c184
                 clear c184
                 by_cases c196 : ((rd_T28 ((rd_T44 t102 x5_1).args) 0).n) ≥ (l0.length : Int)
                 ·rw [if_pos c196] at H
                  exact absurd H (by simp)
                 ·rw [if_neg c196] at H
                  have c196b0 : decide ((l0.length : Int) ≤ ((rd_T28 ((rd_T44 t102 x5_1).args) 0).n)) = false := decide_eq_false c196
                  clear c196
                  have H' := am H
                  clear H
                  obtain ⟨Ao208, co208, eo208⟩ := Kd.N_slice HO_4.out
                  subst eo208
                  have p105 : 0 ≤ (x5_1 : Int) := dt_
                  have q105 : x5_1 < (t102.length : Int) := dt_
                  obtain ⟨ad105, A105_1, c105_1, e105, hx105_0, hx105_1, hl105_1, hi105_1⟩ := at_T44 (Kd.N_reads' HO_4.out).2.2 x5_1 p105 q105
                  cases e105
                  obtain ⟨ce105, hce105, hMe105, hcc105⟩ := Kd.N_get HO_4.out z44 x5_1 p105 (by first | exact q105 | exact dt_ | (have e_ := (Kd.N_reads' HO_4.out).1; omega))
                  obtain ⟨ua105_1, uc105_1, rfl, ul105_1, ge105_1⟩ := k44_openF hMe105
                  have hv105_1 := hcc105 1 _ rfl
                  rw [add_field _ _ 1 (by omega)] at hv105_1
                  replace hv105_1 := Option.some.inj (hv105_1.symm.trans hx105_1)
                  injection hv105_1 with hva_ hvn_ hvc_
                  rw [hva_] at ge105_1
                  rw [hvc_] at ul105_1
                  have HL105_1 := am (show Kd.V k28 28 _ w.heap.size _ _ ((rd_T44 t102 x5_1).args) from Kd.V_mk ul105_1 ge105_1)
                  clear hva_ hvn_ hvc_ ge105_1 ul105_1
                  clear hcc105 hce105
                  have HR105_1 := am hi105_1
                  have HC105_1 := am hl105_1
                  clear hi105_1 hl105_1
                  replace p105 := eq_true p105
                  replace q105 := eq_true q105
                  try go_wp2_with (first | ((with_reducible refine gate_dst (N := 6) rfl ?_); (try (refine gate_guard (by rfl) ?_; dsimp only)); refine box_event ?hg (N := 6) ?hd (cs := #[.string (⟨#[]⟩ : ByteArray), .slice none 0 0]) (t := 44) ?hr ?_; (case hd => rfl); (case hg => rfl); (case hr => first | (go_simp; done) | (go_simp; rfl)); intro gb106 hg w209 hbox hb; replace HO_4 := am (Kd.N_below (Kd.N_elderB (by (with_reducible repeat (first | apply Kd.N_alloc | apply Kd.N_drewN | apply Kd.N_drew)); exact HO_4.out) gb106 (Nat.le_of_eq hg.symm)) hb); replace HL105_1 := am (Kd.V_below (Kd.V_elderB (pV HL105_1.out) gb106 (Nat.le_of_eq hg.symm)) hb); replace HR105_1 := am (Kd.C_below (by repeat (first | (with_reducible exact HR105_1.out) | (with_reducible refine Kd.C_alloc ?_ _) | (with_reducible refine Kd.C_drewN ?_ _) | (with_reducible refine Kd.C_drew ?_) | exact HR105_1.out)) hb); have BK106 := am (hbox); have GW106 := am (gw_ hg HB.out); have GE106 := GW106; replace HB := am (bs_ HB.out hb); clear hb hbox hg; obtain ⟨hcz210_0, hcz210_1, hfz210_0, hfz210_1⟩ := bc2 BK106.out))
                  have n0_ : Aside0 (Kd.N k44 44 ((w209.setCell ⟨gb106, 0, none⟩ (.string ((rd_T44 t102 x5_1).pred))).setCell ⟨gb106, 1, none⟩ (.slice A105_1 ((rd_T44 t102 x5_1).args).length c105_1)) w.heap.size (fun k_ => k_ ≠ gb106) (.slice (some ad105) t102.length co208) t102) := ⟨by (with_reducible repeat (first | apply Kd.N_alloc | apply Kd.N_drewN | apply Kd.N_drew)); exact Kd.N_mono (Kd.N_far (p := ⟨gb106, 1, none⟩) (Kd.N_far (p := ⟨gb106, 0, none⟩) (Kd.N_mono HO_4.out (fun k_ hk => (⟨hk, hk.2⟩ : _ ∧ k_ ≠ gb106))) (fun _ hk => hk.2) _) (fun _ hk => hk.2) _) (fun _ hk => hk.1.2)⟩
                  have n1_ : Aside0 (Kd.V k28 28 ((w209.setCell ⟨gb106, 0, none⟩ (.string ((rd_T44 t102 x5_1).pred))).setCell ⟨gb106, 1, none⟩ (.slice A105_1 ((rd_T44 t102 x5_1).args).length c105_1)) w.heap.size (fun k_ => some k_ ≠ (.slice (some ad105) t102.length co208 : Value).ownBlock ∧ k_ ≠ gb106) (.slice A105_1 ((rd_T44 t102 x5_1).args).length c105_1) ((rd_T44 t102 x5_1).args)) := ⟨by (with_reducible repeat (first | apply Va | apply Vn | apply Vd)); exact Kd.V_mono (Kd.V_far (p := ⟨gb106, 1, none⟩) (Kd.V_far (p := ⟨gb106, 0, none⟩) (Kd.V_mono HL105_1.out (fun k_ hk => (⟨hk, hk.2⟩ : _ ∧ k_ ≠ gb106))) (fun _ hk => hk.2) _) (fun _ hk => hk.2) _) (fun _ hk => ⟨hk.1.1.2, hk.1.2⟩)⟩
                  have n2_ : Aside0 (((w209.setCell ⟨gb106, 0, none⟩ (.string ((rd_T44 t102 x5_1).pred))).setCell ⟨gb106, 1, none⟩ (.slice A105_1 ((rd_T44 t102 x5_1).args).length c105_1)).heap[gb106]? = some (.cells #[.string ((rd_T44 t102 x5_1).pred), .slice A105_1 ((rd_T44 t102 x5_1).args).length c105_1] 44 (0, 0))) := ⟨by (with_reducible repeat (first | refine bN ?_ _ | refine bD ?_ | refine bA ?_ _)); exact bq2 BK106.out⟩
                  have n3_ : Aside0 (Below w.heap.size w ((w209.setCell ⟨gb106, 0, none⟩ (.string ((rd_T44 t102 x5_1).pred))).setCell ⟨gb106, 1, none⟩ (.slice A105_1 ((rd_T44 t102 x5_1).args).length c105_1))) := ⟨pL HB.out⟩
                  (try clear HO_4)
                  (try clear HL105_1)
                  (try clear BK106)
                  (try clear HB)
                  generalize ((w209.setCell ⟨gb106, 0, none⟩ (.string ((rd_T44 t102 x5_1).pred))).setCell ⟨gb106, 1, none⟩ (.slice A105_1 ((rd_T44 t102 x5_1).args).length c105_1)) = w211 at n0_ n1_ n2_ n3_ ⊢
                  have HO_4 := n0_
                  have HL105_1 := n1_
                  have BK106 := n2_
                  have HB := n3_
                  clear n0_ n1_ n2_ n3_
                  replace HO_4 := am (Kd.N_drew HO_4.out)
                  replace HL105_1 := am (Kd.V_drew HL105_1.out)
                  replace BK106 := am (blk_drew BK106.out)
                  replace HB := am (below_drew1 HB.out)
                  have p107 : 0 ≤ ((ji11) : Int) := dt_
                  have q107 : (ji11) < (t102.length : Int) := dt_
                  obtain ⟨ad107, A107_1, c107_1, e107, hx107_0, hx107_1, hl107_1, hi107_1⟩ := at_T44 (Kd.N_reads' HO_4.out).2.2 (ji11) p107 q107
                  obtain rfl : ad105 = ad107 := (by injection e107)
                  obtain ⟨ce107, hce107, hMe107, hcc107⟩ := Kd.N_get HO_4.out z44 (ji11) p107 (by first | exact q107 | exact dt_ | (have e_ := (Kd.N_reads' HO_4.out).1; omega))
                  obtain ⟨ua107_1, uc107_1, rfl, ul107_1, ge107_1⟩ := k44_openF hMe107
                  have hv107_1 := hcc107 1 _ rfl
                  rw [add_field _ _ 1 (by omega)] at hv107_1
                  replace hv107_1 := Option.some.inj (hv107_1.symm.trans hx107_1)
                  injection hv107_1 with hva_ hvn_ hvc_
                  rw [hva_] at ge107_1
                  rw [hvc_] at ul107_1
                  have HL107_1 := am (show Kd.V k28 28 _ w.heap.size _ _ ((rd_T44 t102 (ji11)).args) from Kd.V_mk ul107_1 ge107_1)
                  clear hva_ hvn_ hvc_ ge107_1 ul107_1
                  clear hcc107 hce107
                  have HR107_1 := am hi107_1
                  have HC107_1 := am hl107_1
                  clear hi107_1 hl107_1
                  replace p107 := eq_true p107
                  replace q107 := eq_true q107
                  refine start_ (n := 12) (S := fun w' => w'.cell? ⟨gb106, 0, none⟩ = some (.string ((rd_T44 t102 x5_1).pred)) ∧ w'.cell? ⟨gb106, 1, none⟩ = some (.slice A105_1 ((rd_T44 t102 x5_1).args).length c105_1) ∧ w'.cell? (ad105.add (((ji11)).toNat * 2)) = some (.string ((rd_T44 t102 (ji11)).pred)) ∧ w'.cell? ⟨(ad105.add (((ji11)).toNat * 2)).block, (ad105.add (((ji11)).toNat * 2)).off + 1, none⟩ = some (.slice A107_1 ((rd_T44 t102 (ji11)).args).length c107_1)) (ds := []) (bl 12 0) (by kernel_rfl) rfl rfl ⟨(blk_cell BK106.out 0).trans rfl, (blk_cell BK106.out 1).trans rfl, hx107_0, hx107_1⟩ (fun hHeld => ?_); refine with_tabW lambrequinlaw21_FactsSorted.tab9 lambrequinlaw21_FactsSorted.bits9 (fun HT_ HW_ => ?_)
                  generalize w211.drew = w212 at HO_4 HL105_1 BK106 HB HL107_1 HR107_1 hx107_0 hx107_1 hHeld ⊢
                  refine pure_ (i := 0) (N := some 26) (v := ?_) (a' := ?_) (bl 12 1) rfl rfl (any_of HT_.out (by kernel_rfl)) (fun _ _ _ h => h) (Or.inl ⟨by rfl, ?_⟩) ?_ ?_
                  rotate_left
                  ·intro w'
                   go_simp
                   with_reducible rfl
                  rotate_left
                  ·simp only [Act.put, sA, sZ, sS, i64_w, i32_w]
                   rfl
                  refine pure_ (i := 1) (N := some 27) (v := ?_) (a' := ?_) (bl 12 3) rfl rfl (any_of HT_.out (by kernel_rfl)) (fun _ _ _ h => h) (Or.inl ⟨by rfl, ?_⟩) ?_ ?_
                  rotate_left
                  ·intro w'
                   go_simp
                   with_reducible rfl
                  rotate_left
                  ·simp only [Act.put, sA, sZ, sS, i64_w, i32_w]
                   rfl
                  refine pure_ (i := 2) (N := some 28) (v := ?_) (a' := ?_) (bl 12 7) rfl rfl (any_of HT_.out (by kernel_rfl)) (fun _ _ _ h => h) (Or.inl ⟨by rfl, ?_⟩) ?_ ?_
                  rotate_left
                  ·intro w'
                   go_simp
                   with_reducible rfl
                  rotate_left
                  ·simp only [Act.put, sA, sZ, sS, i64_w, i32_w]
                   rfl
                  refine pure_ (i := 3) (N := some 29) (v := ?_) (a' := ?_) (bl 12 15) rfl rfl (any_of HT_.out (by kernel_rfl)) (fun _ _ _ h => h) (Or.inl ⟨by rfl, ?_⟩) ?_ ?_
                  rotate_left
                  ·intro w'
                   go_simp
                   with_reducible rfl
                  rotate_left
                  ·simp only [Act.put, sA, sZ, sS, i64_w, i32_w]
                   rfl
                  refine pure_ (i := 4) (N := some 30) (v := ?_) (a' := ?_) (bl 12 31) rfl rfl (any_of HT_.out (by kernel_rfl)) (fun _ _ _ h => h) (Or.inl ⟨by rfl, ?_⟩) ?_ ?_
                  rotate_left
                  ·intro w'
                   go_simp
                   with_reducible rfl
                  rotate_left
                  ·simp only [Act.put, sA, sZ, sS, i64_w, i32_w]
                   rfl
                  refine pure_ (i := 5) (N := some 31) (v := ?_) (a' := ?_) (bl 12 63) rfl rfl (any_of HT_.out (by kernel_rfl)) (fun _ _ _ h => h) (Or.inl ⟨by rfl, ?_⟩) ?_ ?_
                  rotate_left
                  ·intro w'
                   go_simp
                   with_reducible rfl
                  rotate_left
                  ·simp only [Act.put, sA, sZ, sS, i64_w, i32_w]
                   rfl
                  refine pure_ (i := 6) (N := some 32) (v := ?_) (a' := ?_) (bl 12 127) rfl rfl (any_of HT_.out (by kernel_rfl)) (fun _ _ _ h => h) (Or.inl ⟨by rfl, ?_⟩) ?_ ?_
                  rotate_left
                  ·intro w'
                   go_simp
                   with_reducible rfl
                  rotate_left
                  ·simp only [Act.put, sA, sZ, sS, i64_w, i32_w]
                   rfl
                  refine take_ (i := 7) (N := some 33) (v := ?_) (a' := ?_) (bl 12 255) rfl rfl (take_ofW HT_.out HW_.out (by kernel_rfl)) (fun _ _ _ h => h) (Or.inl ⟨by rfl, ?_⟩) hHeld ?_ ?_
                  rotate_left
                  ·rintro w' ⟨s0, s1, s2, s3⟩
                   go_simp
                   with_reducible rfl
                  rotate_left
                  ·simp only [Act.put, sA, sZ, sS, i64_w, i32_w]
                   rfl
                  refine take_ (i := 8) (N := some 34) (v := ?_) (a' := ?_) (bl 12 511) rfl rfl (take_ofW HT_.out HW_.out (by kernel_rfl)) (fun _ _ _ h => h) (Or.inl ⟨by rfl, ?_⟩) hHeld ?_ ?_
                  rotate_left
                  ·rintro w' ⟨s0, s1, s2, s3⟩
                   go_simp
                   with_reducible rfl
                  rotate_left
                  ·simp only [Act.put, sA, sZ, sS, i64_w, i32_w]
                   rfl
                  refine one_ (i := 9) (N := some 35) (bl 12 1023) rfl rfl (one_of HT_.out (by kernel_rfl)) (by decide) (fun K hK => ?_)
                  refine goes_ Try.func16 (by kernel_rfl) rfl #[.agg #[.string ((rd_T44 t102 (ji11)).pred), .slice A107_1 ((rd_T44 t102 (ji11)).args).length c107_1], .agg #[.string ((rd_T44 t102 x5_1).pred), .slice A105_1 ((rd_T44 t102 x5_1).args).length c105_1]] (by rfl) rfl rfl (by (try simp only [List.map_toArray, List.map_cons, List.map_nil]); first | done | (simp only [hji11]; rfl) | rfl | (simp only [List.length_drop, List.length_take]; rfl)) ?_
                  with_reducible refine (lambrequinref14_Compare.calls k1 ((rd_T44 t102 (ji11)).pred) _ _ ((rd_T44 t102 (ji11)).args) ((rd_T44 t102 x5_1).pred) _ _ ((rd_T44 t102 x5_1).args) t108 _ ?side1 ?side2 ?side3 ?side4 A14.out).mono ?_
                  (case side1 => repeat (first | exact (by repeat (first | (with_reducible exact HR107_1.out) | (with_reducible refine Kd.C_alloc ?_ _) | (with_reducible refine Kd.C_drewN ?_ _) | (with_reducible refine Kd.C_drew ?_) | exact HR107_1.out)) | (with_reducible refine Kd.C_alloc ?_ _) | (with_reducible refine Kd.C_drewN ?_ _) | (with_reducible refine Kd.C_drew ?_)))
                  (case side2 => exact HC107_1.out)
                  (case side3 => repeat (first | exact ((Kd.V_reads' HL105_1.out).2.2) | (with_reducible refine Kd.C_alloc ?_ _) | (with_reducible refine Kd.C_drewN ?_ _) | (with_reducible refine Kd.C_drew ?_)))
                  (case side4 => exact HC105_1.out)
                  rintro e w213 ⟨rfl, hb⟩
                  have HS2_ := (hb.cell (blt_ (hHeld.2.2.1))).trans (hHeld.2.2.1)
                  have HS3_ := (hb.cell (blt_ (hHeld.2.2.2))).trans (hHeld.2.2.2)
                  refine ⟨_, rfl, ?_⟩
                  replace HO_4 := am (Kd.N_below (by (with_reducible repeat (first | apply Kd.N_alloc | apply Kd.N_drewN | apply Kd.N_drew)); exact HO_4.out) hb)
                  replace HL105_1 := am (Kd.V_below (pV HL105_1.out) hb)
                  replace HL107_1 := am (Kd.V_below (pV HL107_1.out) hb)
                  replace BK106 := am (bb_ BK106.out hb)
                  replace HR107_1 := am (Kd.C_below (by repeat (first | (with_reducible exact HR107_1.out) | (with_reducible refine Kd.C_alloc ?_ _) | (with_reducible refine Kd.C_drewN ?_ _) | (with_reducible refine Kd.C_drew ?_) | exact HR107_1.out)) hb)
                  replace HB := am (bs_ HB.out hb)
                  (try clear hb)
                  (try clear hb2)
                  (try clear hk)
                  (try clear hi)
                  refine hK.out _ _ ⟨(blk_cell BK106.out 0).trans rfl, (blk_cell BK106.out 1).trans rfl, HS2_, HS3_⟩ (fun hHeld => ?_)
                  clear hK K
                  refine norm_ (a' := ?_) ?_ ?_
                  rotate_left
                  ·show Act.put _ (some 35) _ = _
                   simp only [Act.put, sA, sZ, sS, i64_w, i32_w]
                   rfl
                  refine pure_ (i := 10) (N := some 36) (v := ?_) (a' := ?_) (bl 12 2047) rfl rfl (any_of HT_.out (by kernel_rfl)) (fun _ _ _ h => h) (Or.inl ⟨by rfl, ?_⟩) ?_ ?_
                  rotate_left
                  ·intro w'
                   go_simp
                   with_reducible rfl
                  rotate_left
                  ·simp only [Act.put, sA, sZ, sS, i64_w, i32_w]
                   rfl
                  refine pure_ (i := 11) (N := some 37) (v := ?_) (a' := ?_) (bl 12 4095) rfl rfl (any_of HT_.out (by kernel_rfl)) (fun _ _ _ h => h) (Or.inl ⟨by rfl, ?_⟩) ?_ ?_
                  rotate_left
                  ·intro w'
                   go_simp
                   with_reducible rfl
                  rotate_left
                  ·simp only [Act.put, sA, sZ, sS, i64_w, i32_w]
                   rfl
                  refine done_ (done_of HT_.out (by kernel_rfl)) ?_
                  obtain ⟨hcz214_0, hcz214_1, hfz214_0, hfz214_1⟩ := bc2 BK106.out
                  try go_wp2_with (first | ((with_reducible refine gate_dst (N := 44) rfl ?_); (try (refine gate_guard (by rfl) ?_; dsimp only)); refine Kd.R_lit Kd.string _ 9 ?hg (N := 44) ?hd (xs := ([(⟨#[100, 101, 102]⟩ : ByteArray), (⟨#[102, 108, 111, 119]⟩ : ByteArray), (⟨#[110, 101, 120, 116]⟩ : ByteArray), (⟨#[110, 111, 100, 101]⟩ : ByteArray), (⟨#[115, 105, 110, 107]⟩ : ByteArray), (⟨#[115, 111, 117, 114, 99, 101]⟩ : ByteArray), (⟨#[117, 115, 101]⟩ : ByteArray)] : List ByteArray)) (inner := [.string (⟨#[100, 101, 102]⟩ : ByteArray), .string (⟨#[102, 108, 111, 119]⟩ : ByteArray), .string (⟨#[110, 101, 120, 116]⟩ : ByteArray), .string (⟨#[110, 111, 100, 101]⟩ : ByteArray), .string (⟨#[115, 105, 110, 107]⟩ : ByteArray), .string (⟨#[115, 111, 117, 114, 99, 101]⟩ : ByteArray), .string (⟨#[117, 115, 101]⟩ : ByteArray)]) (ok := fun _ => True) (okp := fun _ => True) ?hr ?hp (fun _ hk => hk) trivial (Below.refl _ _) (Nat.le_refl _) (by simp) ?_; (case hd => rfl); (case hg => rfl); (case hr => first | (go_simp; done) | (go_simp; rfl)); (case hp => exact (Reps.one (show Kd.M Kd.string _ _ _ (⟨#[100, 101, 102]⟩ : ByteArray) [.string (⟨#[100, 101, 102]⟩ : ByteArray)] from rfl) (Reps.one (show Kd.M Kd.string _ _ _ (⟨#[102, 108, 111, 119]⟩ : ByteArray) [.string (⟨#[102, 108, 111, 119]⟩ : ByteArray)] from rfl) (Reps.one (show Kd.M Kd.string _ _ _ (⟨#[110, 101, 120, 116]⟩ : ByteArray) [.string (⟨#[110, 101, 120, 116]⟩ : ByteArray)] from rfl) (Reps.one (show Kd.M Kd.string _ _ _ (⟨#[110, 111, 100, 101]⟩ : ByteArray) [.string (⟨#[110, 111, 100, 101]⟩ : ByteArray)] from rfl) (Reps.one (show Kd.M Kd.string _ _ _ (⟨#[115, 105, 110, 107]⟩ : ByteArray) [.string (⟨#[115, 105, 110, 107]⟩ : ByteArray)] from rfl) (Reps.one (show Kd.M Kd.string _ _ _ (⟨#[115, 111, 117, 114, 99, 101]⟩ : ByteArray) [.string (⟨#[115, 111, 117, 114, 99, 101]⟩ : ByteArray)] from rfl) (Reps.one (show Kd.M Kd.string _ _ _ (⟨#[117, 115, 101]⟩ : ByteArray) [.string (⟨#[117, 115, 101]⟩ : ByteArray)] from rfl) (Reps.none _ _))))))))); intro v124 w215 ho216 hb hg_ hnew_; clear hg_ hnew_; (first | rw [← Ny123.out] at ho216 | (simp only [Int.reduceToNat] at ho216; rw [← Ny123.out] at ho216)); replace HO_4 := am (Kd.N_elder' (by (with_reducible repeat (first | apply Kd.N_alloc | apply Kd.N_drewN | apply Kd.N_drew)); exact HO_4.out) (Kd.R_base ho216) hb); replace HL105_1 := am (Kd.V_elder' (pV HL105_1.out) (Kd.R_base ho216) hb); replace HL107_1 := am (Kd.V_elder' (pV HL107_1.out) (Kd.R_base ho216) hb); have HO125 := am (Kd.R_lower ho216 (below_size (pL HB.out))); replace BK106 := am (bb_ BK106.out hb); replace HR107_1 := am (Kd.C_below (by repeat (first | (with_reducible exact HR107_1.out) | (with_reducible refine Kd.C_alloc ?_ _) | (with_reducible refine Kd.C_drewN ?_ _) | (with_reducible refine Kd.C_drew ?_) | exact HR107_1.out)) hb); replace HB := am (bs_ HB.out hb); clear hb ho216; obtain ⟨hcz217_0, hcz217_1, hfz217_0, hfz217_1⟩ := bc2 BK106.out; obtain ⟨Ao218, co218, eo218⟩ := Kd.R_slice HO125.out; subst eo218) | ((with_reducible refine gate_callee (f := 13) rfl ?_); refine goesL_ (some 47) rfl rfl Try.func13 (by kernel_rfl) rfl #[.slice Ao218 y123.length co218, .string ((rd_T44 t102 x5_1).pred)] rfl (by (try simp only [List.map_toArray, List.map_cons, List.map_nil]); first | done | rfl | (simp only [List.length_drop, List.length_take]; rfl)) ?_; (with_reducible refine (lambrequinref09_In.calls k1 _ _ y123 ((rd_T44 t102 x5_1).pred) true _ ?side1 ?side2 A167.out).mono ?_); (case side1 => repeat (first | exact (Kd.R_reads' HO125.out).2.2 | (with_reducible refine Kd.C_alloc ?_ _) | (with_reducible refine Kd.C_drewN ?_ _) | (with_reducible refine Kd.C_drew ?_))); (case side2 => exact (Kd.R_reads' HO125.out).2.1); rintro e w' ⟨rfl, ⟨nd, rfl⟩⟩; refine ⟨_, rfl, ?_⟩; have p127 : 0 ≤ (0 : Int) := (by omega); have q127 : 0 < (((rd_T44 t102 x5_1).args).length : Int) := dt_; obtain ⟨ad127, e127, hx127_0, hx127_1, hx127_2⟩ := at_T28 ((Kd.V_reads' HL105_1.out).2.2) 0 p127 q127; (try rw [← Nbq171.out] at hx127_0); cases e127; have qi127 : (0 < ((rd_T44 t102 x5_1).args).length) = True := eq_true (by omega); (try rw [show ((0 : Int)).toNat = 0 from rfl] at hx127_0); (try rw [show 0 * 3 = 0 from rfl] at hx127_0); (try rw [Addr.add_zero'] at hx127_0); (try rw [show ((0 : Int)).toNat = 0 from rfl] at hx127_1); (try rw [show 0 * 3 = 0 from rfl] at hx127_1); (try rw [Addr.add_zero'] at hx127_1); (try rw [show ((0 : Int)).toNat = 0 from rfl] at hx127_2); (try rw [show 0 * 3 = 0 from rfl] at hx127_2); (try rw [Addr.add_zero'] at hx127_2); replace p127 := eq_true p127; replace q127 := eq_true q127; have p128 : 0 ≤ (0 : Int) := (by omega); have q128 : 0 < (((rd_T44 t102 x5_1).args).length : Int) := dt_; obtain ⟨ad128, e128, hx128_0, hx128_1, hx128_2⟩ := at_T28 ((Kd.V_reads' HL105_1.out).2.2) 0 p128 q128; (try rw [← Nbq171.out] at hx128_0); obtain rfl : ad127 = ad128 := (by injection e128); have qi128 : (0 < ((rd_T44 t102 x5_1).args).length) = True := eq_true (by omega); (try rw [show ((0 : Int)).toNat = 0 from rfl] at hx128_0); (try rw [show 0 * 3 = 0 from rfl] at hx128_0); (try rw [Addr.add_zero'] at hx128_0); (try rw [show ((0 : Int)).toNat = 0 from rfl] at hx128_1); (try rw [show 0 * 3 = 0 from rfl] at hx128_1); (try rw [Addr.add_zero'] at hx128_1); (try rw [show ((0 : Int)).toNat = 0 from rfl] at hx128_2); (try rw [show 0 * 3 = 0 from rfl] at hx128_2); (try rw [Addr.add_zero'] at hx128_2); replace p128 := eq_true p128; replace q128 := eq_true q128; have p129 : 0 ≤ (0 : Int) := (by omega); have q129 : 0 < (((rd_T44 t102 x5_1).args).length : Int) := dt_; obtain ⟨ad129, e129, hx129_0, hx129_1, hx129_2⟩ := at_T28 ((Kd.V_reads' HL105_1.out).2.2) 0 p129 q129; (try rw [← Nbq171.out] at hx129_0); obtain rfl : ad127 = ad129 := (by injection e129); have qi129 : (0 < ((rd_T44 t102 x5_1).args).length) = True := eq_true (by omega); (try rw [show ((0 : Int)).toNat = 0 from rfl] at hx129_0); (try rw [show 0 * 3 = 0 from rfl] at hx129_0); (try rw [Addr.add_zero'] at hx129_0); (try rw [show ((0 : Int)).toNat = 0 from rfl] at hx129_1); (try rw [show 0 * 3 = 0 from rfl] at hx129_1); (try rw [Addr.add_zero'] at hx129_1); (try rw [show ((0 : Int)).toNat = 0 from rfl] at hx129_2); (try rw [show 0 * 3 = 0 from rfl] at hx129_2); (try rw [Addr.add_zero'] at hx129_2); replace p129 := eq_true p129; replace q129 := eq_true q129))
                  go_roundg k1
                  case measure => have := HK1.out; omega
                  case rel => exact ⟨(wrap64 (x5_1 + 1)), rs_, H', ⟨by have := HK1.out; omega⟩, ⟨by (with_reducible repeat (first | apply Kd.N_alloc | apply Kd.N_drewN | apply Kd.N_drew)); exact Kd.N_mono HO_4.out (fun _ hk => trivial)⟩, ⟨pL HB.out⟩⟩
              ·rw [if_neg c170] at H
               exact absurd H (by simp)
             ·rw [if_neg c169] at H
              exact absurd H (by simp)
            ·rw [if_neg c168] at H
             exact absurd H (by simp)
           ·rw [if_neg c166] at H
            have c166b0 : (((rd_T44 t102 x5_1).pred).toList == ([102, 108, 111, 119] : List UInt8)) = false := beq_eq_false_iff_ne.mpr c166
            have c166b1 : (((rd_T44 t102 x5_1).pred).toList != ([102, 108, 111, 119] : List UInt8)) = true := bne_iff_ne.mpr c166
            obtain ⟨y130, hy130⟩ : ∃ y_ : List ByteArray, y_ = (([(⟨#[100, 101, 102]⟩ : ByteArray), (⟨#[102, 108, 111, 119]⟩ : ByteArray), (⟨#[110, 101, 120, 116]⟩ : ByteArray), (⟨#[110, 111, 100, 101]⟩ : ByteArray), (⟨#[115, 105, 110, 107]⟩ : ByteArray), (⟨#[115, 111, 117, 114, 99, 101]⟩ : ByteArray), (⟨#[117, 115, 101]⟩ : ByteArray)] : List ByteArray)) := ⟨_, rfl⟩
            replace H : ((lambrequinref09_In.f k1 y130 ((rd_T44 t102 x5_1).pred)).bind fun t133 => (if t133 = true then (if (((rd_T44 t102 x5_1).args).length : Int) = 2 then (if 0 < (((rd_T44 t102 x5_1).args).length : Int) then (if (rd_T28 ((rd_T44 t102 x5_1).args) 0).isSym = true then (none) else (if ((rd_T28 ((rd_T44 t102 x5_1).args) 0).n) < 0 then (none) else (if ((rd_T28 ((rd_T44 t102 x5_1).args) 0).n) ≥ (l0.length : Int) then (none) else (lambrequinlaw21_FactsSorted.l0 k1 l0 t101 t102 (wrap64 (x5_1 + 1)))))) else (none)) else (none)) else (none))) = some r := by first | (rw [hy130]; with_reducible exact H) | (have H2_ := (Option.bind_some _ _).symm.trans H; rw [hy130]; with_reducible exact H2_) | (have H2_ := (Option.bind_some _ _).symm.trans H; with_reducible exact H2_) | with_reducible exact H | (rw [hy130]; exact H) | exact H
            have Ny130 := am hy130
            clear hy130
            replace H := Option.bind_eq_some_iff.mp H
            obtain ⟨t133, A2410, H⟩ := H
            replace H : (if t133 = true then (if (((rd_T44 t102 x5_1).args).length : Int) = 2 then (if 0 < (((rd_T44 t102 x5_1).args).length : Int) then (if (rd_T28 ((rd_T44 t102 x5_1).args) 0).isSym = true then (none) else (if ((rd_T28 ((rd_T44 t102 x5_1).args) 0).n) < 0 then (none) else (if ((rd_T28 ((rd_T44 t102 x5_1).args) 0).n) ≥ (l0.length : Int) then (none) else (lambrequinlaw21_FactsSorted.l0 k1 l0 t101 t102 (wrap64 (x5_1 + 1)))))) else (none)) else (none)) else (none)) = some r := H
            have A241 := am A2410
            clear A2410
            by_cases c242 : t133 = true
            ·subst c242
             have H1 : (if (((rd_T44 t102 x5_1).args).length : Int) = 2 then (if 0 < (((rd_T44 t102 x5_1).args).length : Int) then (if (rd_T28 ((rd_T44 t102 x5_1).args) 0).isSym = true then (none) else (if ((rd_T28 ((rd_T44 t102 x5_1).args) 0).n) < 0 then (none) else (if ((rd_T28 ((rd_T44 t102 x5_1).args) 0).n) ≥ (l0.length : Int) then (none) else (lambrequinlaw21_FactsSorted.l0 k1 l0 t101 t102 (wrap64 (x5_1 + 1)))))) else (none)) else (none)) = some r := by rw [if_pos rfl] at H; exact H
             clear H
             have H := H1
             clear H1
             by_cases c243 : (((rd_T44 t102 x5_1).args).length : Int) = 2
             ·rw [if_pos c243] at H
              have c243b0 : ((((rd_T44 t102 x5_1).args).length : Int) == 2) = true := beq_iff_eq.mpr c243
              have c243b1 : ((((rd_T44 t102 x5_1).args).length : Int) != 2) = false := bne_eq_false_iff_eq.mpr c243
              clear c243
              by_cases c244 : 0 < (((rd_T44 t102 x5_1).args).length : Int)
              ·rw [if_pos c244] at H
               have c244b0 : decide (0 < (((rd_T44 t102 x5_1).args).length : Int)) = true := decide_eq_true c244
               have c244b1 : decide (0 < ((rd_T44 t102 x5_1).args).length) = true := decide_eq_true (by omega)
               clear c244
               obtain ⟨bq245, hbq245⟩ : ∃ b_ : Bool, b_ = ((rd_T28 ((rd_T44 t102 x5_1).args) 0).isSym) := ⟨_, rfl⟩
               replace H : (if bq245 = true then (none) else (if ((rd_T28 ((rd_T44 t102 x5_1).args) 0).n) < 0 then (none) else (if ((rd_T28 ((rd_T44 t102 x5_1).args) 0).n) ≥ (l0.length : Int) then (none) else (lambrequinlaw21_FactsSorted.l0 k1 l0 t101 t102 (wrap64 (x5_1 + 1)))))) = some r := by rw [← hbq245] at H; exact H
               have Nbq245 := am hbq245
               clear hbq245
               by_cases c246 : bq245 = true
               ·rw [if_pos c246] at H
                exact absurd H (by simp)
               ·replace c246 := Bool.eq_false_iff.mpr c246
                subst c246
                have H1 : (if ((rd_T28 ((rd_T44 t102 x5_1).args) 0).n) < 0 then (none) else (if ((rd_T28 ((rd_T44 t102 x5_1).args) 0).n) ≥ (l0.length : Int) then (none) else (lambrequinlaw21_FactsSorted.l0 k1 l0 t101 t102 (wrap64 (x5_1 + 1))))) = some r := by rw [if_neg (show ¬ (false = true) by decide)] at H; exact H
                clear H
                have H := H1
                clear H1
                by_cases c258 : ((rd_T28 ((rd_T44 t102 x5_1).args) 0).n) < 0
                ·rw [if_pos c258] at H
                 exact absurd H (by simp)
                ·rw [if_neg c258] at H
                 have c258b0 : decide (((rd_T28 ((rd_T44 t102 x5_1).args) 0).n) < 0) = false := decide_eq_false c258
                 clear c258
                 by_cases c270 : ((rd_T28 ((rd_T44 t102 x5_1).args) 0).n) ≥ (l0.length : Int)
                 ·rw [if_pos c270] at H
                  exact absurd H (by simp)
                 ·rw [if_neg c270] at H
                  have c270b0 : decide ((l0.length : Int) ≤ ((rd_T28 ((rd_T44 t102 x5_1).args) 0).n)) = false := decide_eq_false c270
                  clear c270
                  have H' := am H
                  clear H
                  obtain ⟨Ao282, co282, eo282⟩ := Kd.N_slice HO_4.out
                  subst eo282
                  have p105 : 0 ≤ (x5_1 : Int) := dt_
                  have q105 : x5_1 < (t102.length : Int) := dt_
                  obtain ⟨ad105, A105_1, c105_1, e105, hx105_0, hx105_1, hl105_1, hi105_1⟩ := at_T44 (Kd.N_reads' HO_4.out).2.2 x5_1 p105 q105
                  cases e105
                  obtain ⟨ce105, hce105, hMe105, hcc105⟩ := Kd.N_get HO_4.out z44 x5_1 p105 (by first | exact q105 | exact dt_ | (have e_ := (Kd.N_reads' HO_4.out).1; omega))
                  obtain ⟨ua105_1, uc105_1, rfl, ul105_1, ge105_1⟩ := k44_openF hMe105
                  have hv105_1 := hcc105 1 _ rfl
                  rw [add_field _ _ 1 (by omega)] at hv105_1
                  replace hv105_1 := Option.some.inj (hv105_1.symm.trans hx105_1)
                  injection hv105_1 with hva_ hvn_ hvc_
                  rw [hva_] at ge105_1
                  rw [hvc_] at ul105_1
                  have HL105_1 := am (show Kd.V k28 28 _ w.heap.size _ _ ((rd_T44 t102 x5_1).args) from Kd.V_mk ul105_1 ge105_1)
                  clear hva_ hvn_ hvc_ ge105_1 ul105_1
                  clear hcc105 hce105
                  have HR105_1 := am hi105_1
                  have HC105_1 := am hl105_1
                  clear hi105_1 hl105_1
                  replace p105 := eq_true p105
                  replace q105 := eq_true q105
                  try go_wp2_with (first | ((with_reducible refine gate_dst (N := 6) rfl ?_); (try (refine gate_guard (by rfl) ?_; dsimp only)); refine box_event ?hg (N := 6) ?hd (cs := #[.string (⟨#[]⟩ : ByteArray), .slice none 0 0]) (t := 44) ?hr ?_; (case hd => rfl); (case hg => rfl); (case hr => first | (go_simp; done) | (go_simp; rfl)); intro gb106 hg w283 hbox hb; replace HO_4 := am (Kd.N_below (Kd.N_elderB (by (with_reducible repeat (first | apply Kd.N_alloc | apply Kd.N_drewN | apply Kd.N_drew)); exact HO_4.out) gb106 (Nat.le_of_eq hg.symm)) hb); replace HL105_1 := am (Kd.V_below (Kd.V_elderB (pV HL105_1.out) gb106 (Nat.le_of_eq hg.symm)) hb); replace HR105_1 := am (Kd.C_below (by repeat (first | (with_reducible exact HR105_1.out) | (with_reducible refine Kd.C_alloc ?_ _) | (with_reducible refine Kd.C_drewN ?_ _) | (with_reducible refine Kd.C_drew ?_) | exact HR105_1.out)) hb); have BK106 := am (hbox); have GW106 := am (gw_ hg HB.out); have GE106 := GW106; replace HB := am (bs_ HB.out hb); clear hb hbox hg; obtain ⟨hcz284_0, hcz284_1, hfz284_0, hfz284_1⟩ := bc2 BK106.out))
                  have n0_ : Aside0 (Kd.N k44 44 ((w283.setCell ⟨gb106, 0, none⟩ (.string ((rd_T44 t102 x5_1).pred))).setCell ⟨gb106, 1, none⟩ (.slice A105_1 ((rd_T44 t102 x5_1).args).length c105_1)) w.heap.size (fun k_ => k_ ≠ gb106) (.slice (some ad105) t102.length co282) t102) := ⟨by (with_reducible repeat (first | apply Kd.N_alloc | apply Kd.N_drewN | apply Kd.N_drew)); exact Kd.N_mono (Kd.N_far (p := ⟨gb106, 1, none⟩) (Kd.N_far (p := ⟨gb106, 0, none⟩) (Kd.N_mono HO_4.out (fun k_ hk => (⟨hk, hk.2⟩ : _ ∧ k_ ≠ gb106))) (fun _ hk => hk.2) _) (fun _ hk => hk.2) _) (fun _ hk => hk.1.2)⟩
                  have n1_ : Aside0 (Kd.V k28 28 ((w283.setCell ⟨gb106, 0, none⟩ (.string ((rd_T44 t102 x5_1).pred))).setCell ⟨gb106, 1, none⟩ (.slice A105_1 ((rd_T44 t102 x5_1).args).length c105_1)) w.heap.size (fun k_ => some k_ ≠ (.slice (some ad105) t102.length co282 : Value).ownBlock ∧ k_ ≠ gb106) (.slice A105_1 ((rd_T44 t102 x5_1).args).length c105_1) ((rd_T44 t102 x5_1).args)) := ⟨by (with_reducible repeat (first | apply Va | apply Vn | apply Vd)); exact Kd.V_mono (Kd.V_far (p := ⟨gb106, 1, none⟩) (Kd.V_far (p := ⟨gb106, 0, none⟩) (Kd.V_mono HL105_1.out (fun k_ hk => (⟨hk, hk.2⟩ : _ ∧ k_ ≠ gb106))) (fun _ hk => hk.2) _) (fun _ hk => hk.2) _) (fun _ hk => ⟨hk.1.1.2, hk.1.2⟩)⟩
                  have n2_ : Aside0 (((w283.setCell ⟨gb106, 0, none⟩ (.string ((rd_T44 t102 x5_1).pred))).setCell ⟨gb106, 1, none⟩ (.slice A105_1 ((rd_T44 t102 x5_1).args).length c105_1)).heap[gb106]? = some (.cells #[.string ((rd_T44 t102 x5_1).pred), .slice A105_1 ((rd_T44 t102 x5_1).args).length c105_1] 44 (0, 0))) := ⟨by (with_reducible repeat (first | refine bN ?_ _ | refine bD ?_ | refine bA ?_ _)); exact bq2 BK106.out⟩
                  have n3_ : Aside0 (Below w.heap.size w ((w283.setCell ⟨gb106, 0, none⟩ (.string ((rd_T44 t102 x5_1).pred))).setCell ⟨gb106, 1, none⟩ (.slice A105_1 ((rd_T44 t102 x5_1).args).length c105_1))) := ⟨pL HB.out⟩
                  (try clear HO_4)
                  (try clear HL105_1)
                  (try clear BK106)
                  (try clear HB)
                  generalize ((w283.setCell ⟨gb106, 0, none⟩ (.string ((rd_T44 t102 x5_1).pred))).setCell ⟨gb106, 1, none⟩ (.slice A105_1 ((rd_T44 t102 x5_1).args).length c105_1)) = w285 at n0_ n1_ n2_ n3_ ⊢
                  have HO_4 := n0_
                  have HL105_1 := n1_
                  have BK106 := n2_
                  have HB := n3_
                  clear n0_ n1_ n2_ n3_
                  replace HO_4 := am (Kd.N_drew HO_4.out)
                  replace HL105_1 := am (Kd.V_drew HL105_1.out)
                  replace BK106 := am (blk_drew BK106.out)
                  replace HB := am (below_drew1 HB.out)
                  have p107 : 0 ≤ ((ji11) : Int) := dt_
                  have q107 : (ji11) < (t102.length : Int) := dt_
                  obtain ⟨ad107, A107_1, c107_1, e107, hx107_0, hx107_1, hl107_1, hi107_1⟩ := at_T44 (Kd.N_reads' HO_4.out).2.2 (ji11) p107 q107
                  obtain rfl : ad105 = ad107 := (by injection e107)
                  obtain ⟨ce107, hce107, hMe107, hcc107⟩ := Kd.N_get HO_4.out z44 (ji11) p107 (by first | exact q107 | exact dt_ | (have e_ := (Kd.N_reads' HO_4.out).1; omega))
                  obtain ⟨ua107_1, uc107_1, rfl, ul107_1, ge107_1⟩ := k44_openF hMe107
                  have hv107_1 := hcc107 1 _ rfl
                  rw [add_field _ _ 1 (by omega)] at hv107_1
                  replace hv107_1 := Option.some.inj (hv107_1.symm.trans hx107_1)
                  injection hv107_1 with hva_ hvn_ hvc_
                  rw [hva_] at ge107_1
                  rw [hvc_] at ul107_1
                  have HL107_1 := am (show Kd.V k28 28 _ w.heap.size _ _ ((rd_T44 t102 (ji11)).args) from Kd.V_mk ul107_1 ge107_1)
                  clear hva_ hvn_ hvc_ ge107_1 ul107_1
                  clear hcc107 hce107
                  have HR107_1 := am hi107_1
                  have HC107_1 := am hl107_1
                  clear hi107_1 hl107_1
                  replace p107 := eq_true p107
                  replace q107 := eq_true q107
                  refine start_ (n := 12) (S := fun w' => w'.cell? ⟨gb106, 0, none⟩ = some (.string ((rd_T44 t102 x5_1).pred)) ∧ w'.cell? ⟨gb106, 1, none⟩ = some (.slice A105_1 ((rd_T44 t102 x5_1).args).length c105_1) ∧ w'.cell? (ad105.add (((ji11)).toNat * 2)) = some (.string ((rd_T44 t102 (ji11)).pred)) ∧ w'.cell? ⟨(ad105.add (((ji11)).toNat * 2)).block, (ad105.add (((ji11)).toNat * 2)).off + 1, none⟩ = some (.slice A107_1 ((rd_T44 t102 (ji11)).args).length c107_1)) (ds := []) (bl 12 0) (by kernel_rfl) rfl rfl ⟨(blk_cell BK106.out 0).trans rfl, (blk_cell BK106.out 1).trans rfl, hx107_0, hx107_1⟩ (fun hHeld => ?_); refine with_tabW lambrequinlaw21_FactsSorted.tab9 lambrequinlaw21_FactsSorted.bits9 (fun HT_ HW_ => ?_)
                  generalize w285.drew = w286 at HO_4 HL105_1 BK106 HB HL107_1 HR107_1 hx107_0 hx107_1 hHeld ⊢
                  refine pure_ (i := 0) (N := some 26) (v := ?_) (a' := ?_) (bl 12 1) rfl rfl (any_of HT_.out (by kernel_rfl)) (fun _ _ _ h => h) (Or.inl ⟨by rfl, ?_⟩) ?_ ?_
                  rotate_left
                  ·intro w'
                   go_simp
                   with_reducible rfl
                  rotate_left
                  ·simp only [Act.put, sA, sZ, sS, i64_w, i32_w]
                   rfl
                  refine pure_ (i := 1) (N := some 27) (v := ?_) (a' := ?_) (bl 12 3) rfl rfl (any_of HT_.out (by kernel_rfl)) (fun _ _ _ h => h) (Or.inl ⟨by rfl, ?_⟩) ?_ ?_
                  rotate_left
                  ·intro w'
                   go_simp
                   with_reducible rfl
                  rotate_left
                  ·simp only [Act.put, sA, sZ, sS, i64_w, i32_w]
                   rfl
                  refine pure_ (i := 2) (N := some 28) (v := ?_) (a' := ?_) (bl 12 7) rfl rfl (any_of HT_.out (by kernel_rfl)) (fun _ _ _ h => h) (Or.inl ⟨by rfl, ?_⟩) ?_ ?_
                  rotate_left
                  ·intro w'
                   go_simp
                   with_reducible rfl
                  rotate_left
                  ·simp only [Act.put, sA, sZ, sS, i64_w, i32_w]
                   rfl
                  refine pure_ (i := 3) (N := some 29) (v := ?_) (a' := ?_) (bl 12 15) rfl rfl (any_of HT_.out (by kernel_rfl)) (fun _ _ _ h => h) (Or.inl ⟨by rfl, ?_⟩) ?_ ?_
                  rotate_left
                  ·intro w'
                   go_simp
                   with_reducible rfl
                  rotate_left
                  ·simp only [Act.put, sA, sZ, sS, i64_w, i32_w]
                   rfl
                  refine pure_ (i := 4) (N := some 30) (v := ?_) (a' := ?_) (bl 12 31) rfl rfl (any_of HT_.out (by kernel_rfl)) (fun _ _ _ h => h) (Or.inl ⟨by rfl, ?_⟩) ?_ ?_
                  rotate_left
                  ·intro w'
                   go_simp
                   with_reducible rfl
                  rotate_left
                  ·simp only [Act.put, sA, sZ, sS, i64_w, i32_w]
                   rfl
                  refine pure_ (i := 5) (N := some 31) (v := ?_) (a' := ?_) (bl 12 63) rfl rfl (any_of HT_.out (by kernel_rfl)) (fun _ _ _ h => h) (Or.inl ⟨by rfl, ?_⟩) ?_ ?_
                  rotate_left
                  ·intro w'
                   go_simp
                   with_reducible rfl
                  rotate_left
                  ·simp only [Act.put, sA, sZ, sS, i64_w, i32_w]
                   rfl
                  refine pure_ (i := 6) (N := some 32) (v := ?_) (a' := ?_) (bl 12 127) rfl rfl (any_of HT_.out (by kernel_rfl)) (fun _ _ _ h => h) (Or.inl ⟨by rfl, ?_⟩) ?_ ?_
                  rotate_left
                  ·intro w'
                   go_simp
                   with_reducible rfl
                  rotate_left
                  ·simp only [Act.put, sA, sZ, sS, i64_w, i32_w]
                   rfl
                  refine take_ (i := 7) (N := some 33) (v := ?_) (a' := ?_) (bl 12 255) rfl rfl (take_ofW HT_.out HW_.out (by kernel_rfl)) (fun _ _ _ h => h) (Or.inl ⟨by rfl, ?_⟩) hHeld ?_ ?_
                  rotate_left
                  ·rintro w' ⟨s0, s1, s2, s3⟩
                   go_simp
                   with_reducible rfl
                  rotate_left
                  ·simp only [Act.put, sA, sZ, sS, i64_w, i32_w]
                   rfl
                  refine take_ (i := 8) (N := some 34) (v := ?_) (a' := ?_) (bl 12 511) rfl rfl (take_ofW HT_.out HW_.out (by kernel_rfl)) (fun _ _ _ h => h) (Or.inl ⟨by rfl, ?_⟩) hHeld ?_ ?_
                  rotate_left
                  ·rintro w' ⟨s0, s1, s2, s3⟩
                   go_simp
                   with_reducible rfl
                  rotate_left
                  ·simp only [Act.put, sA, sZ, sS, i64_w, i32_w]
                   rfl
                  refine one_ (i := 9) (N := some 35) (bl 12 1023) rfl rfl (one_of HT_.out (by kernel_rfl)) (by decide) (fun K hK => ?_)
                  refine goes_ Try.func16 (by kernel_rfl) rfl #[.agg #[.string ((rd_T44 t102 (ji11)).pred), .slice A107_1 ((rd_T44 t102 (ji11)).args).length c107_1], .agg #[.string ((rd_T44 t102 x5_1).pred), .slice A105_1 ((rd_T44 t102 x5_1).args).length c105_1]] (by rfl) rfl rfl (by (try simp only [List.map_toArray, List.map_cons, List.map_nil]); first | done | (simp only [hji11]; rfl) | rfl | (simp only [List.length_drop, List.length_take]; rfl)) ?_
                  with_reducible refine (lambrequinref14_Compare.calls k1 ((rd_T44 t102 (ji11)).pred) _ _ ((rd_T44 t102 (ji11)).args) ((rd_T44 t102 x5_1).pred) _ _ ((rd_T44 t102 x5_1).args) t108 _ ?side1 ?side2 ?side3 ?side4 A14.out).mono ?_
                  (case side1 => repeat (first | exact (by repeat (first | (with_reducible exact HR107_1.out) | (with_reducible refine Kd.C_alloc ?_ _) | (with_reducible refine Kd.C_drewN ?_ _) | (with_reducible refine Kd.C_drew ?_) | exact HR107_1.out)) | (with_reducible refine Kd.C_alloc ?_ _) | (with_reducible refine Kd.C_drewN ?_ _) | (with_reducible refine Kd.C_drew ?_)))
                  (case side2 => exact HC107_1.out)
                  (case side3 => repeat (first | exact ((Kd.V_reads' HL105_1.out).2.2) | (with_reducible refine Kd.C_alloc ?_ _) | (with_reducible refine Kd.C_drewN ?_ _) | (with_reducible refine Kd.C_drew ?_)))
                  (case side4 => exact HC105_1.out)
                  rintro e w287 ⟨rfl, hb⟩
                  have HS2_ := (hb.cell (blt_ (hHeld.2.2.1))).trans (hHeld.2.2.1)
                  have HS3_ := (hb.cell (blt_ (hHeld.2.2.2))).trans (hHeld.2.2.2)
                  refine ⟨_, rfl, ?_⟩
                  replace HO_4 := am (Kd.N_below (by (with_reducible repeat (first | apply Kd.N_alloc | apply Kd.N_drewN | apply Kd.N_drew)); exact HO_4.out) hb)
                  replace HL105_1 := am (Kd.V_below (pV HL105_1.out) hb)
                  replace HL107_1 := am (Kd.V_below (pV HL107_1.out) hb)
                  replace BK106 := am (bb_ BK106.out hb)
                  replace HR107_1 := am (Kd.C_below (by repeat (first | (with_reducible exact HR107_1.out) | (with_reducible refine Kd.C_alloc ?_ _) | (with_reducible refine Kd.C_drewN ?_ _) | (with_reducible refine Kd.C_drew ?_) | exact HR107_1.out)) hb)
                  replace HB := am (bs_ HB.out hb)
                  (try clear hb)
                  (try clear hb2)
                  (try clear hk)
                  (try clear hi)
                  refine hK.out _ _ ⟨(blk_cell BK106.out 0).trans rfl, (blk_cell BK106.out 1).trans rfl, HS2_, HS3_⟩ (fun hHeld => ?_)
                  clear hK K
                  refine norm_ (a' := ?_) ?_ ?_
                  rotate_left
                  ·show Act.put _ (some 35) _ = _
                   simp only [Act.put, sA, sZ, sS, i64_w, i32_w]
                   rfl
                  refine pure_ (i := 10) (N := some 36) (v := ?_) (a' := ?_) (bl 12 2047) rfl rfl (any_of HT_.out (by kernel_rfl)) (fun _ _ _ h => h) (Or.inl ⟨by rfl, ?_⟩) ?_ ?_
                  rotate_left
                  ·intro w'
                   go_simp
                   with_reducible rfl
                  rotate_left
                  ·simp only [Act.put, sA, sZ, sS, i64_w, i32_w]
                   rfl
                  refine pure_ (i := 11) (N := some 37) (v := ?_) (a' := ?_) (bl 12 4095) rfl rfl (any_of HT_.out (by kernel_rfl)) (fun _ _ _ h => h) (Or.inl ⟨by rfl, ?_⟩) ?_ ?_
                  rotate_left
                  ·intro w'
                   go_simp
                   with_reducible rfl
                  rotate_left
                  ·simp only [Act.put, sA, sZ, sS, i64_w, i32_w]
                   rfl
                  refine done_ (done_of HT_.out (by kernel_rfl)) ?_
                  obtain ⟨hcz288_0, hcz288_1, hfz288_0, hfz288_1⟩ := bc2 BK106.out
                  try go_wp2_with (first | ((with_reducible refine gate_dst (N := 44) rfl ?_); (try (refine gate_guard (by rfl) ?_; dsimp only)); refine Kd.R_lit Kd.string _ 9 ?hg (N := 44) ?hd (xs := ([(⟨#[100, 101, 102]⟩ : ByteArray), (⟨#[102, 108, 111, 119]⟩ : ByteArray), (⟨#[110, 101, 120, 116]⟩ : ByteArray), (⟨#[110, 111, 100, 101]⟩ : ByteArray), (⟨#[115, 105, 110, 107]⟩ : ByteArray), (⟨#[115, 111, 117, 114, 99, 101]⟩ : ByteArray), (⟨#[117, 115, 101]⟩ : ByteArray)] : List ByteArray)) (inner := [.string (⟨#[100, 101, 102]⟩ : ByteArray), .string (⟨#[102, 108, 111, 119]⟩ : ByteArray), .string (⟨#[110, 101, 120, 116]⟩ : ByteArray), .string (⟨#[110, 111, 100, 101]⟩ : ByteArray), .string (⟨#[115, 105, 110, 107]⟩ : ByteArray), .string (⟨#[115, 111, 117, 114, 99, 101]⟩ : ByteArray), .string (⟨#[117, 115, 101]⟩ : ByteArray)]) (ok := fun _ => True) (okp := fun _ => True) ?hr ?hp (fun _ hk => hk) trivial (Below.refl _ _) (Nat.le_refl _) (by simp) ?_; (case hd => rfl); (case hg => rfl); (case hr => first | (go_simp; done) | (go_simp; rfl)); (case hp => exact (Reps.one (show Kd.M Kd.string _ _ _ (⟨#[100, 101, 102]⟩ : ByteArray) [.string (⟨#[100, 101, 102]⟩ : ByteArray)] from rfl) (Reps.one (show Kd.M Kd.string _ _ _ (⟨#[102, 108, 111, 119]⟩ : ByteArray) [.string (⟨#[102, 108, 111, 119]⟩ : ByteArray)] from rfl) (Reps.one (show Kd.M Kd.string _ _ _ (⟨#[110, 101, 120, 116]⟩ : ByteArray) [.string (⟨#[110, 101, 120, 116]⟩ : ByteArray)] from rfl) (Reps.one (show Kd.M Kd.string _ _ _ (⟨#[110, 111, 100, 101]⟩ : ByteArray) [.string (⟨#[110, 111, 100, 101]⟩ : ByteArray)] from rfl) (Reps.one (show Kd.M Kd.string _ _ _ (⟨#[115, 105, 110, 107]⟩ : ByteArray) [.string (⟨#[115, 105, 110, 107]⟩ : ByteArray)] from rfl) (Reps.one (show Kd.M Kd.string _ _ _ (⟨#[115, 111, 117, 114, 99, 101]⟩ : ByteArray) [.string (⟨#[115, 111, 117, 114, 99, 101]⟩ : ByteArray)] from rfl) (Reps.one (show Kd.M Kd.string _ _ _ (⟨#[117, 115, 101]⟩ : ByteArray) [.string (⟨#[117, 115, 101]⟩ : ByteArray)] from rfl) (Reps.none _ _))))))))); intro v131 w289 ho290 hb hg_ hnew_; clear hg_ hnew_; (first | rw [← Ny130.out] at ho290 | (simp only [Int.reduceToNat] at ho290; rw [← Ny130.out] at ho290)); replace HO_4 := am (Kd.N_elder' (by (with_reducible repeat (first | apply Kd.N_alloc | apply Kd.N_drewN | apply Kd.N_drew)); exact HO_4.out) (Kd.R_base ho290) hb); replace HL105_1 := am (Kd.V_elder' (pV HL105_1.out) (Kd.R_base ho290) hb); replace HL107_1 := am (Kd.V_elder' (pV HL107_1.out) (Kd.R_base ho290) hb); have HO132 := am (Kd.R_lower ho290 (below_size (pL HB.out))); replace BK106 := am (bb_ BK106.out hb); replace HR107_1 := am (Kd.C_below (by repeat (first | (with_reducible exact HR107_1.out) | (with_reducible refine Kd.C_alloc ?_ _) | (with_reducible refine Kd.C_drewN ?_ _) | (with_reducible refine Kd.C_drew ?_) | exact HR107_1.out)) hb); replace HB := am (bs_ HB.out hb); clear hb ho290; obtain ⟨hcz291_0, hcz291_1, hfz291_0, hfz291_1⟩ := bc2 BK106.out; obtain ⟨Ao292, co292, eo292⟩ := Kd.R_slice HO132.out; subst eo292) | ((with_reducible refine gate_callee (f := 13) rfl ?_); refine goesL_ (some 47) rfl rfl Try.func13 (by kernel_rfl) rfl #[.slice Ao292 y130.length co292, .string ((rd_T44 t102 x5_1).pred)] rfl (by (try simp only [List.map_toArray, List.map_cons, List.map_nil]); first | done | rfl | (simp only [List.length_drop, List.length_take]; rfl)) ?_; (with_reducible refine (lambrequinref09_In.calls k1 _ _ y130 ((rd_T44 t102 x5_1).pred) true _ ?side1 ?side2 A241.out).mono ?_); (case side1 => repeat (first | exact (Kd.R_reads' HO132.out).2.2 | (with_reducible refine Kd.C_alloc ?_ _) | (with_reducible refine Kd.C_drewN ?_ _) | (with_reducible refine Kd.C_drew ?_))); (case side2 => exact (Kd.R_reads' HO132.out).2.1); rintro e w' ⟨rfl, ⟨nd, rfl⟩⟩; refine ⟨_, rfl, ?_⟩; have p134 : 0 ≤ (0 : Int) := (by omega); have q134 : 0 < (((rd_T44 t102 x5_1).args).length : Int) := dt_; obtain ⟨ad134, e134, hx134_0, hx134_1, hx134_2⟩ := at_T28 ((Kd.V_reads' HL105_1.out).2.2) 0 p134 q134; (try rw [← Nbq245.out] at hx134_0); cases e134; have qi134 : (0 < ((rd_T44 t102 x5_1).args).length) = True := eq_true (by omega); (try rw [show ((0 : Int)).toNat = 0 from rfl] at hx134_0); (try rw [show 0 * 3 = 0 from rfl] at hx134_0); (try rw [Addr.add_zero'] at hx134_0); (try rw [show ((0 : Int)).toNat = 0 from rfl] at hx134_1); (try rw [show 0 * 3 = 0 from rfl] at hx134_1); (try rw [Addr.add_zero'] at hx134_1); (try rw [show ((0 : Int)).toNat = 0 from rfl] at hx134_2); (try rw [show 0 * 3 = 0 from rfl] at hx134_2); (try rw [Addr.add_zero'] at hx134_2); replace p134 := eq_true p134; replace q134 := eq_true q134; have p135 : 0 ≤ (0 : Int) := (by omega); have q135 : 0 < (((rd_T44 t102 x5_1).args).length : Int) := dt_; obtain ⟨ad135, e135, hx135_0, hx135_1, hx135_2⟩ := at_T28 ((Kd.V_reads' HL105_1.out).2.2) 0 p135 q135; (try rw [← Nbq245.out] at hx135_0); obtain rfl : ad134 = ad135 := (by injection e135); have qi135 : (0 < ((rd_T44 t102 x5_1).args).length) = True := eq_true (by omega); (try rw [show ((0 : Int)).toNat = 0 from rfl] at hx135_0); (try rw [show 0 * 3 = 0 from rfl] at hx135_0); (try rw [Addr.add_zero'] at hx135_0); (try rw [show ((0 : Int)).toNat = 0 from rfl] at hx135_1); (try rw [show 0 * 3 = 0 from rfl] at hx135_1); (try rw [Addr.add_zero'] at hx135_1); (try rw [show ((0 : Int)).toNat = 0 from rfl] at hx135_2); (try rw [show 0 * 3 = 0 from rfl] at hx135_2); (try rw [Addr.add_zero'] at hx135_2); replace p135 := eq_true p135; replace q135 := eq_true q135; have p136 : 0 ≤ (0 : Int) := (by omega); have q136 : 0 < (((rd_T44 t102 x5_1).args).length : Int) := dt_; obtain ⟨ad136, e136, hx136_0, hx136_1, hx136_2⟩ := at_T28 ((Kd.V_reads' HL105_1.out).2.2) 0 p136 q136; (try rw [← Nbq245.out] at hx136_0); obtain rfl : ad134 = ad136 := (by injection e136); have qi136 : (0 < ((rd_T44 t102 x5_1).args).length) = True := eq_true (by omega); (try rw [show ((0 : Int)).toNat = 0 from rfl] at hx136_0); (try rw [show 0 * 3 = 0 from rfl] at hx136_0); (try rw [Addr.add_zero'] at hx136_0); (try rw [show ((0 : Int)).toNat = 0 from rfl] at hx136_1); (try rw [show 0 * 3 = 0 from rfl] at hx136_1); (try rw [Addr.add_zero'] at hx136_1); (try rw [show ((0 : Int)).toNat = 0 from rfl] at hx136_2); (try rw [show 0 * 3 = 0 from rfl] at hx136_2); (try rw [Addr.add_zero'] at hx136_2); replace p136 := eq_true p136; replace q136 := eq_true q136))
                  go_roundg k1
                  case measure => have := HK1.out; omega
                  case rel => exact ⟨(wrap64 (x5_1 + 1)), rs_, H', ⟨by have := HK1.out; omega⟩, ⟨by (with_reducible repeat (first | apply Kd.N_alloc | apply Kd.N_drewN | apply Kd.N_drew)); exact Kd.N_mono HO_4.out (fun _ hk => trivial)⟩, ⟨pL HB.out⟩⟩
              ·rw [if_neg c244] at H
               exact absurd H (by simp)
             ·rw [if_neg c243] at H
              exact absurd H (by simp)
            ·rw [if_neg c242] at H
             exact absurd H (by simp)
         ·rw [if_neg c15] at H
          exact absurd H (by simp)
        ·rw [if_neg c13] at H
         exact absurd H (by simp)
       ·rw [if_neg c12] at H
        exact absurd H (by simp)
      ·rw [if_neg c10] at H
       have c10b0 : decide (0 < x5_1) = false := decide_eq_false c10
       clear c10
       by_cases c321 : ((rd_T44 t102 x5_1).pred).toList = ([110, 111, 100, 101] : List UInt8)
       ·rw [if_pos c321] at H
        have c321b0 : (((rd_T44 t102 x5_1).pred).toList == ([110, 111, 100, 101] : List UInt8)) = true := beq_iff_eq.mpr c321
        have c321b1 : (((rd_T44 t102 x5_1).pred).toList != ([110, 111, 100, 101] : List UInt8)) = false := bne_eq_false_iff_eq.mpr c321
        clear c321
        by_cases c322 : ((rd_T44 t102 x5_1).pred).toList = ([102, 108, 111, 119] : List UInt8)
        ·rw [if_pos c322] at H
         have c322b0 : (((rd_T44 t102 x5_1).pred).toList == ([102, 108, 111, 119] : List UInt8)) = true := beq_iff_eq.mpr c322
         have c322b1 : (((rd_T44 t102 x5_1).pred).toList != ([102, 108, 111, 119] : List UInt8)) = false := bne_eq_false_iff_eq.mpr c322
         clear c322
         obtain ⟨y137, hy137⟩ : ∃ y_ : List ByteArray, y_ = (([(⟨#[100, 101, 102]⟩ : ByteArray), (⟨#[102, 108, 111, 119]⟩ : ByteArray), (⟨#[110, 101, 120, 116]⟩ : ByteArray), (⟨#[110, 111, 100, 101]⟩ : ByteArray), (⟨#[115, 105, 110, 107]⟩ : ByteArray), (⟨#[115, 111, 117, 114, 99, 101]⟩ : ByteArray), (⟨#[117, 115, 101]⟩ : ByteArray)] : List ByteArray)) := ⟨_, rfl⟩
         replace H : ((lambrequinref09_In.f k1 y137 ((rd_T44 t102 x5_1).pred)).bind fun t140 => (if t140 = true then (if (((rd_T44 t102 x5_1).args).length : Int) = 3 then (if 0 < (((rd_T44 t102 x5_1).args).length : Int) then (if (rd_T28 ((rd_T44 t102 x5_1).args) 0).isSym = true then (none) else (if ((rd_T28 ((rd_T44 t102 x5_1).args) 0).n) < 0 then (none) else (if ((rd_T28 ((rd_T44 t102 x5_1).args) 0).n) ≥ (l0.length : Int) then (none) else (lambrequinlaw21_FactsSorted.l0 k1 l0 t101 t102 (wrap64 (x5_1 + 1)))))) else (none)) else (none)) else (none))) = some r := by first | (rw [hy137]; with_reducible exact H) | (have H2_ := (Option.bind_some _ _).symm.trans H; rw [hy137]; with_reducible exact H2_) | (have H2_ := (Option.bind_some _ _).symm.trans H; with_reducible exact H2_) | with_reducible exact H | (rw [hy137]; exact H) | exact H
         have Ny137 := am hy137
         clear hy137
         replace H := Option.bind_eq_some_iff.mp H
         obtain ⟨t140, A3230, H⟩ := H
         replace H : (if t140 = true then (if (((rd_T44 t102 x5_1).args).length : Int) = 3 then (if 0 < (((rd_T44 t102 x5_1).args).length : Int) then (if (rd_T28 ((rd_T44 t102 x5_1).args) 0).isSym = true then (none) else (if ((rd_T28 ((rd_T44 t102 x5_1).args) 0).n) < 0 then (none) else (if ((rd_T28 ((rd_T44 t102 x5_1).args) 0).n) ≥ (l0.length : Int) then (none) else (lambrequinlaw21_FactsSorted.l0 k1 l0 t101 t102 (wrap64 (x5_1 + 1)))))) else (none)) else (none)) else (none)) = some r := H
         have A323 := am A3230
         clear A3230
         by_cases c324 : t140 = true
         ·subst c324
          have H1 : (if (((rd_T44 t102 x5_1).args).length : Int) = 3 then (if 0 < (((rd_T44 t102 x5_1).args).length : Int) then (if (rd_T28 ((rd_T44 t102 x5_1).args) 0).isSym = true then (none) else (if ((rd_T28 ((rd_T44 t102 x5_1).args) 0).n) < 0 then (none) else (if ((rd_T28 ((rd_T44 t102 x5_1).args) 0).n) ≥ (l0.length : Int) then (none) else (lambrequinlaw21_FactsSorted.l0 k1 l0 t101 t102 (wrap64 (x5_1 + 1)))))) else (none)) else (none)) = some r := by rw [if_pos rfl] at H; exact H
          clear H
          have H := H1
          clear H1
          by_cases c325 : (((rd_T44 t102 x5_1).args).length : Int) = 3
          ·rw [if_pos c325] at H
           have c325b0 : ((((rd_T44 t102 x5_1).args).length : Int) == 3) = true := beq_iff_eq.mpr c325
           have c325b1 : ((((rd_T44 t102 x5_1).args).length : Int) != 3) = false := bne_eq_false_iff_eq.mpr c325
           clear c325
           by_cases c326 : 0 < (((rd_T44 t102 x5_1).args).length : Int)
           ·rw [if_pos c326] at H
            have c326b0 : decide (0 < (((rd_T44 t102 x5_1).args).length : Int)) = true := decide_eq_true c326
            have c326b1 : decide (0 < ((rd_T44 t102 x5_1).args).length) = true := decide_eq_true (by omega)
            clear c326
            obtain ⟨bq327, hbq327⟩ : ∃ b_ : Bool, b_ = ((rd_T28 ((rd_T44 t102 x5_1).args) 0).isSym) := ⟨_, rfl⟩
            replace H : (if bq327 = true then (none) else (if ((rd_T28 ((rd_T44 t102 x5_1).args) 0).n) < 0 then (none) else (if ((rd_T28 ((rd_T44 t102 x5_1).args) 0).n) ≥ (l0.length : Int) then (none) else (lambrequinlaw21_FactsSorted.l0 k1 l0 t101 t102 (wrap64 (x5_1 + 1)))))) = some r := by rw [← hbq327] at H; exact H
            have Nbq327 := am hbq327
            clear hbq327
            by_cases c328 : bq327 = true
            ·rw [if_pos c328] at H
             exact absurd H (by simp)
            ·replace c328 := Bool.eq_false_iff.mpr c328
             subst c328
             have H1 : (if ((rd_T28 ((rd_T44 t102 x5_1).args) 0).n) < 0 then (none) else (if ((rd_T28 ((rd_T44 t102 x5_1).args) 0).n) ≥ (l0.length : Int) then (none) else (lambrequinlaw21_FactsSorted.l0 k1 l0 t101 t102 (wrap64 (x5_1 + 1))))) = some r := by rw [if_neg (show ¬ (false = true) by decide)] at H; exact H
             clear H
             have H := H1
             clear H1
             by_cases c339 : ((rd_T28 ((rd_T44 t102 x5_1).args) 0).n) < 0
             ·rw [if_pos c339] at H
              exact absurd H (by simp)
             ·rw [if_neg c339] at H
              have c339b0 : decide (((rd_T28 ((rd_T44 t102 x5_1).args) 0).n) < 0) = false := decide_eq_false c339
              clear c339
              by_cases c350 : ((rd_T28 ((rd_T44 t102 x5_1).args) 0).n) ≥ (l0.length : Int)
              ·rw [if_pos c350] at H
               exact absurd H (by simp)
              ·rw [if_neg c350] at H
               have c350b0 : decide ((l0.length : Int) ≤ ((rd_T28 ((rd_T44 t102 x5_1).args) 0).n)) = false := decide_eq_false c350
               clear c350
               have H' := am H
               clear H
               obtain ⟨Ao361, co361, eo361⟩ := Kd.N_slice HO_4.out
               subst eo361
               have p105 : 0 ≤ (x5_1 : Int) := dt_
               have q105 : x5_1 < (t102.length : Int) := dt_
               obtain ⟨ad105, A105_1, c105_1, e105, hx105_0, hx105_1, hl105_1, hi105_1⟩ := at_T44 (Kd.N_reads' HO_4.out).2.2 x5_1 p105 q105
               cases e105
               obtain ⟨ce105, hce105, hMe105, hcc105⟩ := Kd.N_get HO_4.out z44 x5_1 p105 (by first | exact q105 | exact dt_ | (have e_ := (Kd.N_reads' HO_4.out).1; omega))
               obtain ⟨ua105_1, uc105_1, rfl, ul105_1, ge105_1⟩ := k44_openF hMe105
               have hv105_1 := hcc105 1 _ rfl
               rw [add_field _ _ 1 (by omega)] at hv105_1
               replace hv105_1 := Option.some.inj (hv105_1.symm.trans hx105_1)
               injection hv105_1 with hva_ hvn_ hvc_
               rw [hva_] at ge105_1
               rw [hvc_] at ul105_1
               have HL105_1 := am (show Kd.V k28 28 _ w.heap.size _ _ ((rd_T44 t102 x5_1).args) from Kd.V_mk ul105_1 ge105_1)
               clear hva_ hvn_ hvc_ ge105_1 ul105_1
               clear hcc105 hce105
               have HR105_1 := am hi105_1
               have HC105_1 := am hl105_1
               clear hi105_1 hl105_1
               replace p105 := eq_true p105
               replace q105 := eq_true q105
               try go_wp2_with (first | ((with_reducible refine gate_dst (N := 6) rfl ?_); (try (refine gate_guard (by rfl) ?_; dsimp only)); refine box_event ?hg (N := 6) ?hd (cs := #[.string (⟨#[]⟩ : ByteArray), .slice none 0 0]) (t := 44) ?hr ?_; (case hd => rfl); (case hg => rfl); (case hr => first | (go_simp; done) | (go_simp; rfl)); intro gb106 hg w362 hbox hb; replace HO_4 := am (Kd.N_below (Kd.N_elderB (by (with_reducible repeat (first | apply Kd.N_alloc | apply Kd.N_drewN | apply Kd.N_drew)); exact HO_4.out) gb106 (Nat.le_of_eq hg.symm)) hb); replace HL105_1 := am (Kd.V_below (Kd.V_elderB (pV HL105_1.out) gb106 (Nat.le_of_eq hg.symm)) hb); replace HR105_1 := am (Kd.C_below (by repeat (first | (with_reducible exact HR105_1.out) | (with_reducible refine Kd.C_alloc ?_ _) | (with_reducible refine Kd.C_drewN ?_ _) | (with_reducible refine Kd.C_drew ?_) | exact HR105_1.out)) hb); have BK106 := am (hbox); have GW106 := am (gw_ hg HB.out); have GE106 := GW106; replace HB := am (bs_ HB.out hb); clear hb hbox hg; obtain ⟨hcz363_0, hcz363_1, hfz363_0, hfz363_1⟩ := bc2 BK106.out))
               have n0_ : Aside0 (Kd.N k44 44 ((w362.setCell ⟨gb106, 0, none⟩ (.string ((rd_T44 t102 x5_1).pred))).setCell ⟨gb106, 1, none⟩ (.slice A105_1 ((rd_T44 t102 x5_1).args).length c105_1)) w.heap.size (fun k_ => k_ ≠ gb106) (.slice (some ad105) t102.length co361) t102) := ⟨by (with_reducible repeat (first | apply Kd.N_alloc | apply Kd.N_drewN | apply Kd.N_drew)); exact Kd.N_mono (Kd.N_far (p := ⟨gb106, 1, none⟩) (Kd.N_far (p := ⟨gb106, 0, none⟩) (Kd.N_mono HO_4.out (fun k_ hk => (⟨hk, hk.2⟩ : _ ∧ k_ ≠ gb106))) (fun _ hk => hk.2) _) (fun _ hk => hk.2) _) (fun _ hk => hk.1.2)⟩
               have n1_ : Aside0 (Kd.V k28 28 ((w362.setCell ⟨gb106, 0, none⟩ (.string ((rd_T44 t102 x5_1).pred))).setCell ⟨gb106, 1, none⟩ (.slice A105_1 ((rd_T44 t102 x5_1).args).length c105_1)) w.heap.size (fun k_ => some k_ ≠ (.slice (some ad105) t102.length co361 : Value).ownBlock ∧ k_ ≠ gb106) (.slice A105_1 ((rd_T44 t102 x5_1).args).length c105_1) ((rd_T44 t102 x5_1).args)) := ⟨by (with_reducible repeat (first | apply Va | apply Vn | apply Vd)); exact Kd.V_mono (Kd.V_far (p := ⟨gb106, 1, none⟩) (Kd.V_far (p := ⟨gb106, 0, none⟩) (Kd.V_mono HL105_1.out (fun k_ hk => (⟨hk, hk.2⟩ : _ ∧ k_ ≠ gb106))) (fun _ hk => hk.2) _) (fun _ hk => hk.2) _) (fun _ hk => ⟨hk.1.1.2, hk.1.2⟩)⟩
               have n2_ : Aside0 (((w362.setCell ⟨gb106, 0, none⟩ (.string ((rd_T44 t102 x5_1).pred))).setCell ⟨gb106, 1, none⟩ (.slice A105_1 ((rd_T44 t102 x5_1).args).length c105_1)).heap[gb106]? = some (.cells #[.string ((rd_T44 t102 x5_1).pred), .slice A105_1 ((rd_T44 t102 x5_1).args).length c105_1] 44 (0, 0))) := ⟨by (with_reducible repeat (first | refine bN ?_ _ | refine bD ?_ | refine bA ?_ _)); exact bq2 BK106.out⟩
               have n3_ : Aside0 (Below w.heap.size w ((w362.setCell ⟨gb106, 0, none⟩ (.string ((rd_T44 t102 x5_1).pred))).setCell ⟨gb106, 1, none⟩ (.slice A105_1 ((rd_T44 t102 x5_1).args).length c105_1))) := ⟨pL HB.out⟩
               (try clear HO_4)
               (try clear HL105_1)
               (try clear BK106)
               (try clear HB)
               generalize ((w362.setCell ⟨gb106, 0, none⟩ (.string ((rd_T44 t102 x5_1).pred))).setCell ⟨gb106, 1, none⟩ (.slice A105_1 ((rd_T44 t102 x5_1).args).length c105_1)) = w364 at n0_ n1_ n2_ n3_ ⊢
               have HO_4 := n0_
               have HL105_1 := n1_
               have BK106 := n2_
               have HB := n3_
               clear n0_ n1_ n2_ n3_
               replace HO_4 := am (Kd.N_drew HO_4.out)
               replace HL105_1 := am (Kd.V_drew HL105_1.out)
               replace BK106 := am (blk_drew BK106.out)
               replace HB := am (below_drew1 HB.out)
               refine start_ (n := 12) (S := fun w' => True) (ds := []) (bl 12 0) (by kernel_rfl) rfl rfl trivial (fun hHeld => ?_); refine with_tabW lambrequinlaw21_FactsSorted.tab9 lambrequinlaw21_FactsSorted.bits9 (fun HT_ HW_ => ?_)
               generalize w364.drew = w365 at HO_4 HL105_1 BK106 HB hHeld ⊢
               refine pure_ (i := 0) (N := some 26) (v := ?_) (a' := ?_) (bl 12 1) rfl rfl (any_of HT_.out (by kernel_rfl)) (fun _ _ _ h => h) (Or.inl ⟨by rfl, ?_⟩) ?_ ?_
               rotate_left
               ·intro w'
                go_simp
                with_reducible rfl
               rotate_left
               ·simp only [Act.put, sA, sZ, sS, i64_w, i32_w]
                rfl
               refine pure_ (i := 1) (N := some 27) (v := ?_) (a' := ?_) (bl 12 3) rfl rfl (any_of HT_.out (by kernel_rfl)) (fun _ _ _ h => h) (Or.inl ⟨by rfl, ?_⟩) ?_ ?_
               rotate_left
               ·intro w'
                go_simp
                with_reducible rfl
               rotate_left
               ·simp only [Act.put, sA, sZ, sS, i64_w, i32_w]
                rfl
               refine pure_ (i := 2) (N := some 28) (v := ?_) (a' := ?_) (bl 12 7) rfl rfl (any_of HT_.out (by kernel_rfl)) (fun _ _ _ h => h) (Or.inl ⟨by rfl, ?_⟩) ?_ ?_
               rotate_left
               ·intro w'
                go_simp
                with_reducible rfl
               rotate_left
               ·simp only [Act.put, sA, sZ, sS, i64_w, i32_w]
                rfl
               refine pure_ (i := 3) (N := some 29) (v := undef) (a' := ?_) (bl 12 15) rfl rfl (any_of HT_.out (by kernel_rfl)) (fun _ _ _ h => h) (Or.inr ⟨by rfl, rfl⟩) ?_ ?_
               rotate_left
               ·simp only [Act.put, sA, sZ, sS, i64_w, i32_w]
                rfl
               refine pure_ (i := 4) (N := some 30) (v := undef) (a' := ?_) (bl 12 31) rfl rfl (any_of HT_.out (by kernel_rfl)) (fun _ _ _ h => h) (Or.inr ⟨by rfl, rfl⟩) ?_ ?_
               rotate_left
               ·simp only [Act.put, sA, sZ, sS, i64_w, i32_w]
                rfl
               refine pure_ (i := 5) (N := some 31) (v := undef) (a' := ?_) (bl 12 63) rfl rfl (any_of HT_.out (by kernel_rfl)) (fun _ _ _ h => h) (Or.inr ⟨by rfl, rfl⟩) ?_ ?_
               rotate_left
               ·simp only [Act.put, sA, sZ, sS, i64_w, i32_w]
                rfl
               refine pure_ (i := 6) (N := some 32) (v := undef) (a' := ?_) (bl 12 127) rfl rfl (any_of HT_.out (by kernel_rfl)) (fun _ _ _ h => h) (Or.inr ⟨by rfl, rfl⟩) ?_ ?_
               rotate_left
               ·simp only [Act.put, sA, sZ, sS, i64_w, i32_w]
                rfl
               refine pure_ (i := 7) (N := some 33) (v := undef) (a' := ?_) (bl 12 255) rfl rfl (any_of HT_.out (by kernel_rfl)) (fun _ _ _ h => h) (Or.inr ⟨by rfl, rfl⟩) ?_ ?_
               rotate_left
               ·simp only [Act.put, sA, sZ, sS, i64_w, i32_w]
                rfl
               refine pure_ (i := 8) (N := some 34) (v := undef) (a' := ?_) (bl 12 511) rfl rfl (any_of HT_.out (by kernel_rfl)) (fun _ _ _ h => h) (Or.inr ⟨by rfl, rfl⟩) ?_ ?_
               rotate_left
               ·simp only [Act.put, sA, sZ, sS, i64_w, i32_w]
                rfl
               refine pure_ (i := 9) (N := some 35) (v := undef) (a' := ?_) (bl 12 1023) rfl rfl (any_of HT_.out (by kernel_rfl)) (fun _ _ _ h => h) (Or.inr ⟨by rfl, rfl⟩) ?_ ?_
               rotate_left
               ·simp only [Act.put, sA, sZ, sS, i64_w, i32_w]
                rfl
               refine pure_ (i := 10) (N := some 36) (v := undef) (a' := ?_) (bl 12 2047) rfl rfl (any_of HT_.out (by kernel_rfl)) (fun _ _ _ h => h) (Or.inr ⟨by rfl, rfl⟩) ?_ ?_
               rotate_left
               ·simp only [Act.put, sA, sZ, sS, i64_w, i32_w]
                rfl
               refine pure_ (i := 11) (N := some 37) (v := ?_) (a' := ?_) (bl 12 4095) rfl rfl (any_of HT_.out (by kernel_rfl)) (fun _ _ _ h => h) (Or.inl ⟨by rfl, ?_⟩) ?_ ?_
               rotate_left
               ·intro w'
                go_simp
                with_reducible rfl
               rotate_left
               ·simp only [Act.put, sA, sZ, sS, i64_w, i32_w]
                rfl
               refine done_ (done_of HT_.out (by kernel_rfl)) ?_
               obtain ⟨hcz366_0, hcz366_1, hfz366_0, hfz366_1⟩ := bc2 BK106.out
               try go_wp2_with (first | ((with_reducible refine gate_dst (N := 44) rfl ?_); (try (refine gate_guard (by rfl) ?_; dsimp only)); refine Kd.R_lit Kd.string _ 9 ?hg (N := 44) ?hd (xs := ([(⟨#[100, 101, 102]⟩ : ByteArray), (⟨#[102, 108, 111, 119]⟩ : ByteArray), (⟨#[110, 101, 120, 116]⟩ : ByteArray), (⟨#[110, 111, 100, 101]⟩ : ByteArray), (⟨#[115, 105, 110, 107]⟩ : ByteArray), (⟨#[115, 111, 117, 114, 99, 101]⟩ : ByteArray), (⟨#[117, 115, 101]⟩ : ByteArray)] : List ByteArray)) (inner := [.string (⟨#[100, 101, 102]⟩ : ByteArray), .string (⟨#[102, 108, 111, 119]⟩ : ByteArray), .string (⟨#[110, 101, 120, 116]⟩ : ByteArray), .string (⟨#[110, 111, 100, 101]⟩ : ByteArray), .string (⟨#[115, 105, 110, 107]⟩ : ByteArray), .string (⟨#[115, 111, 117, 114, 99, 101]⟩ : ByteArray), .string (⟨#[117, 115, 101]⟩ : ByteArray)]) (ok := fun _ => True) (okp := fun _ => True) ?hr ?hp (fun _ hk => hk) trivial (Below.refl _ _) (Nat.le_refl _) (by simp) ?_; (case hd => rfl); (case hg => rfl); (case hr => first | (go_simp; done) | (go_simp; rfl)); (case hp => exact (Reps.one (show Kd.M Kd.string _ _ _ (⟨#[100, 101, 102]⟩ : ByteArray) [.string (⟨#[100, 101, 102]⟩ : ByteArray)] from rfl) (Reps.one (show Kd.M Kd.string _ _ _ (⟨#[102, 108, 111, 119]⟩ : ByteArray) [.string (⟨#[102, 108, 111, 119]⟩ : ByteArray)] from rfl) (Reps.one (show Kd.M Kd.string _ _ _ (⟨#[110, 101, 120, 116]⟩ : ByteArray) [.string (⟨#[110, 101, 120, 116]⟩ : ByteArray)] from rfl) (Reps.one (show Kd.M Kd.string _ _ _ (⟨#[110, 111, 100, 101]⟩ : ByteArray) [.string (⟨#[110, 111, 100, 101]⟩ : ByteArray)] from rfl) (Reps.one (show Kd.M Kd.string _ _ _ (⟨#[115, 105, 110, 107]⟩ : ByteArray) [.string (⟨#[115, 105, 110, 107]⟩ : ByteArray)] from rfl) (Reps.one (show Kd.M Kd.string _ _ _ (⟨#[115, 111, 117, 114, 99, 101]⟩ : ByteArray) [.string (⟨#[115, 111, 117, 114, 99, 101]⟩ : ByteArray)] from rfl) (Reps.one (show Kd.M Kd.string _ _ _ (⟨#[117, 115, 101]⟩ : ByteArray) [.string (⟨#[117, 115, 101]⟩ : ByteArray)] from rfl) (Reps.none _ _))))))))); intro v138 w367 ho368 hb hg_ hnew_; clear hg_ hnew_; (first | rw [← Ny137.out] at ho368 | (simp only [Int.reduceToNat] at ho368; rw [← Ny137.out] at ho368)); replace HO_4 := am (Kd.N_elder' (by (with_reducible repeat (first | apply Kd.N_alloc | apply Kd.N_drewN | apply Kd.N_drew)); exact HO_4.out) (Kd.R_base ho368) hb); replace HL105_1 := am (Kd.V_elder' (pV HL105_1.out) (Kd.R_base ho368) hb); have HO139 := am (Kd.R_lower ho368 (below_size (pL HB.out))); replace BK106 := am (bb_ BK106.out hb); replace HB := am (bs_ HB.out hb); clear hb ho368; obtain ⟨hcz369_0, hcz369_1, hfz369_0, hfz369_1⟩ := bc2 BK106.out; obtain ⟨Ao370, co370, eo370⟩ := Kd.R_slice HO139.out; subst eo370) | ((with_reducible refine gate_callee (f := 13) rfl ?_); refine goesL_ (some 47) rfl rfl Try.func13 (by kernel_rfl) rfl #[.slice Ao370 y137.length co370, .string ((rd_T44 t102 x5_1).pred)] rfl (by (try simp only [List.map_toArray, List.map_cons, List.map_nil]); first | done | rfl | (simp only [List.length_drop, List.length_take]; rfl)) ?_; (with_reducible refine (lambrequinref09_In.calls k1 _ _ y137 ((rd_T44 t102 x5_1).pred) true _ ?side1 ?side2 A323.out).mono ?_); (case side1 => repeat (first | exact (Kd.R_reads' HO139.out).2.2 | (with_reducible refine Kd.C_alloc ?_ _) | (with_reducible refine Kd.C_drewN ?_ _) | (with_reducible refine Kd.C_drew ?_))); (case side2 => exact (Kd.R_reads' HO139.out).2.1); rintro e w' ⟨rfl, ⟨nd, rfl⟩⟩; refine ⟨_, rfl, ?_⟩; have p141 : 0 ≤ (0 : Int) := (by omega); have q141 : 0 < (((rd_T44 t102 x5_1).args).length : Int) := dt_; obtain ⟨ad141, e141, hx141_0, hx141_1, hx141_2⟩ := at_T28 ((Kd.V_reads' HL105_1.out).2.2) 0 p141 q141; (try rw [← Nbq327.out] at hx141_0); cases e141; have qi141 : (0 < ((rd_T44 t102 x5_1).args).length) = True := eq_true (by omega); (try rw [show ((0 : Int)).toNat = 0 from rfl] at hx141_0); (try rw [show 0 * 3 = 0 from rfl] at hx141_0); (try rw [Addr.add_zero'] at hx141_0); (try rw [show ((0 : Int)).toNat = 0 from rfl] at hx141_1); (try rw [show 0 * 3 = 0 from rfl] at hx141_1); (try rw [Addr.add_zero'] at hx141_1); (try rw [show ((0 : Int)).toNat = 0 from rfl] at hx141_2); (try rw [show 0 * 3 = 0 from rfl] at hx141_2); (try rw [Addr.add_zero'] at hx141_2); replace p141 := eq_true p141; replace q141 := eq_true q141; have p142 : 0 ≤ (0 : Int) := (by omega); have q142 : 0 < (((rd_T44 t102 x5_1).args).length : Int) := dt_; obtain ⟨ad142, e142, hx142_0, hx142_1, hx142_2⟩ := at_T28 ((Kd.V_reads' HL105_1.out).2.2) 0 p142 q142; (try rw [← Nbq327.out] at hx142_0); obtain rfl : ad141 = ad142 := (by injection e142); have qi142 : (0 < ((rd_T44 t102 x5_1).args).length) = True := eq_true (by omega); (try rw [show ((0 : Int)).toNat = 0 from rfl] at hx142_0); (try rw [show 0 * 3 = 0 from rfl] at hx142_0); (try rw [Addr.add_zero'] at hx142_0); (try rw [show ((0 : Int)).toNat = 0 from rfl] at hx142_1); (try rw [show 0 * 3 = 0 from rfl] at hx142_1); (try rw [Addr.add_zero'] at hx142_1); (try rw [show ((0 : Int)).toNat = 0 from rfl] at hx142_2); (try rw [show 0 * 3 = 0 from rfl] at hx142_2); (try rw [Addr.add_zero'] at hx142_2); replace p142 := eq_true p142; replace q142 := eq_true q142; have p143 : 0 ≤ (0 : Int) := (by omega); have q143 : 0 < (((rd_T44 t102 x5_1).args).length : Int) := dt_; obtain ⟨ad143, e143, hx143_0, hx143_1, hx143_2⟩ := at_T28 ((Kd.V_reads' HL105_1.out).2.2) 0 p143 q143; (try rw [← Nbq327.out] at hx143_0); obtain rfl : ad141 = ad143 := (by injection e143); have qi143 : (0 < ((rd_T44 t102 x5_1).args).length) = True := eq_true (by omega); (try rw [show ((0 : Int)).toNat = 0 from rfl] at hx143_0); (try rw [show 0 * 3 = 0 from rfl] at hx143_0); (try rw [Addr.add_zero'] at hx143_0); (try rw [show ((0 : Int)).toNat = 0 from rfl] at hx143_1); (try rw [show 0 * 3 = 0 from rfl] at hx143_1); (try rw [Addr.add_zero'] at hx143_1); (try rw [show ((0 : Int)).toNat = 0 from rfl] at hx143_2); (try rw [show 0 * 3 = 0 from rfl] at hx143_2); (try rw [Addr.add_zero'] at hx143_2); replace p143 := eq_true p143; replace q143 := eq_true q143))
               go_roundg k1
               case measure => have := HK1.out; omega
               case rel => exact ⟨(wrap64 (x5_1 + 1)), rs_, H', ⟨by have := HK1.out; omega⟩, ⟨by (with_reducible repeat (first | apply Kd.N_alloc | apply Kd.N_drewN | apply Kd.N_drew)); exact Kd.N_mono HO_4.out (fun _ hk => trivial)⟩, ⟨pL HB.out⟩⟩
           ·rw [if_neg c326] at H
            exact absurd H (by simp)
          ·rw [if_neg c325] at H
           exact absurd H (by simp)
         ·rw [if_neg c324] at H
          exact absurd H (by simp)
        ·rw [if_neg c322] at H
         have c322b0 : (((rd_T44 t102 x5_1).pred).toList == ([102, 108, 111, 119] : List UInt8)) = false := beq_eq_false_iff_ne.mpr c322
         have c322b1 : (((rd_T44 t102 x5_1).pred).toList != ([102, 108, 111, 119] : List UInt8)) = true := bne_iff_ne.mpr c322
         obtain ⟨y144, hy144⟩ : ∃ y_ : List ByteArray, y_ = (([(⟨#[100, 101, 102]⟩ : ByteArray), (⟨#[102, 108, 111, 119]⟩ : ByteArray), (⟨#[110, 101, 120, 116]⟩ : ByteArray), (⟨#[110, 111, 100, 101]⟩ : ByteArray), (⟨#[115, 105, 110, 107]⟩ : ByteArray), (⟨#[115, 111, 117, 114, 99, 101]⟩ : ByteArray), (⟨#[117, 115, 101]⟩ : ByteArray)] : List ByteArray)) := ⟨_, rfl⟩
         replace H : ((lambrequinref09_In.f k1 y144 ((rd_T44 t102 x5_1).pred)).bind fun t147 => (if t147 = true then (if (((rd_T44 t102 x5_1).args).length : Int) = 1 then (if 0 < (((rd_T44 t102 x5_1).args).length : Int) then (if (rd_T28 ((rd_T44 t102 x5_1).args) 0).isSym = true then (none) else (if ((rd_T28 ((rd_T44 t102 x5_1).args) 0).n) < 0 then (none) else (if ((rd_T28 ((rd_T44 t102 x5_1).args) 0).n) ≥ (l0.length : Int) then (none) else (lambrequinlaw21_FactsSorted.l0 k1 l0 t101 t102 (wrap64 (x5_1 + 1)))))) else (none)) else (none)) else (none))) = some r := by first | (rw [hy144]; with_reducible exact H) | (have H2_ := (Option.bind_some _ _).symm.trans H; rw [hy144]; with_reducible exact H2_) | (have H2_ := (Option.bind_some _ _).symm.trans H; with_reducible exact H2_) | with_reducible exact H | (rw [hy144]; exact H) | exact H
         have Ny144 := am hy144
         clear hy144
         replace H := Option.bind_eq_some_iff.mp H
         obtain ⟨t147, A3910, H⟩ := H
         replace H : (if t147 = true then (if (((rd_T44 t102 x5_1).args).length : Int) = 1 then (if 0 < (((rd_T44 t102 x5_1).args).length : Int) then (if (rd_T28 ((rd_T44 t102 x5_1).args) 0).isSym = true then (none) else (if ((rd_T28 ((rd_T44 t102 x5_1).args) 0).n) < 0 then (none) else (if ((rd_T28 ((rd_T44 t102 x5_1).args) 0).n) ≥ (l0.length : Int) then (none) else (lambrequinlaw21_FactsSorted.l0 k1 l0 t101 t102 (wrap64 (x5_1 + 1)))))) else (none)) else (none)) else (none)) = some r := H
         have A391 := am A3910
         clear A3910
         by_cases c392 : t147 = true
         ·subst c392
          have H1 : (if (((rd_T44 t102 x5_1).args).length : Int) = 1 then (if 0 < (((rd_T44 t102 x5_1).args).length : Int) then (if (rd_T28 ((rd_T44 t102 x5_1).args) 0).isSym = true then (none) else (if ((rd_T28 ((rd_T44 t102 x5_1).args) 0).n) < 0 then (none) else (if ((rd_T28 ((rd_T44 t102 x5_1).args) 0).n) ≥ (l0.length : Int) then (none) else (lambrequinlaw21_FactsSorted.l0 k1 l0 t101 t102 (wrap64 (x5_1 + 1)))))) else (none)) else (none)) = some r := by rw [if_pos rfl] at H; exact H
          clear H
          have H := H1
          clear H1
          by_cases c393 : (((rd_T44 t102 x5_1).args).length : Int) = 1
          ·rw [if_pos c393] at H
           have c393b0 : ((((rd_T44 t102 x5_1).args).length : Int) == 1) = true := beq_iff_eq.mpr c393
           have c393b1 : ((((rd_T44 t102 x5_1).args).length : Int) != 1) = false := bne_eq_false_iff_eq.mpr c393
           clear c393
           by_cases c394 : 0 < (((rd_T44 t102 x5_1).args).length : Int)
           ·rw [if_pos c394] at H
            have c394b0 : decide (0 < (((rd_T44 t102 x5_1).args).length : Int)) = true := decide_eq_true c394
            have c394b1 : decide (0 < ((rd_T44 t102 x5_1).args).length) = true := decide_eq_true (by omega)
            clear c394
            obtain ⟨bq395, hbq395⟩ : ∃ b_ : Bool, b_ = ((rd_T28 ((rd_T44 t102 x5_1).args) 0).isSym) := ⟨_, rfl⟩
            replace H : (if bq395 = true then (none) else (if ((rd_T28 ((rd_T44 t102 x5_1).args) 0).n) < 0 then (none) else (if ((rd_T28 ((rd_T44 t102 x5_1).args) 0).n) ≥ (l0.length : Int) then (none) else (lambrequinlaw21_FactsSorted.l0 k1 l0 t101 t102 (wrap64 (x5_1 + 1)))))) = some r := by rw [← hbq395] at H; exact H
            have Nbq395 := am hbq395
            clear hbq395
            by_cases c396 : bq395 = true
            ·rw [if_pos c396] at H
             exact absurd H (by simp)
            ·replace c396 := Bool.eq_false_iff.mpr c396
             subst c396
             have H1 : (if ((rd_T28 ((rd_T44 t102 x5_1).args) 0).n) < 0 then (none) else (if ((rd_T28 ((rd_T44 t102 x5_1).args) 0).n) ≥ (l0.length : Int) then (none) else (lambrequinlaw21_FactsSorted.l0 k1 l0 t101 t102 (wrap64 (x5_1 + 1))))) = some r := by rw [if_neg (show ¬ (false = true) by decide)] at H; exact H
             clear H
             have H := H1
             clear H1
             by_cases c407 : ((rd_T28 ((rd_T44 t102 x5_1).args) 0).n) < 0
             ·rw [if_pos c407] at H
              exact absurd H (by simp)
             ·rw [if_neg c407] at H
              have c407b0 : decide (((rd_T28 ((rd_T44 t102 x5_1).args) 0).n) < 0) = false := decide_eq_false c407
              clear c407
              by_cases c418 : ((rd_T28 ((rd_T44 t102 x5_1).args) 0).n) ≥ (l0.length : Int)
              ·rw [if_pos c418] at H
               exact absurd H (by simp)
              ·rw [if_neg c418] at H
               have c418b0 : decide ((l0.length : Int) ≤ ((rd_T28 ((rd_T44 t102 x5_1).args) 0).n)) = false := decide_eq_false c418
               clear c418
               have H' := am H
               clear H
               obtain ⟨Ao429, co429, eo429⟩ := Kd.N_slice HO_4.out
               subst eo429
               have p105 : 0 ≤ (x5_1 : Int) := dt_
               have q105 : x5_1 < (t102.length : Int) := dt_
               obtain ⟨ad105, A105_1, c105_1, e105, hx105_0, hx105_1, hl105_1, hi105_1⟩ := at_T44 (Kd.N_reads' HO_4.out).2.2 x5_1 p105 q105
               cases e105
               obtain ⟨ce105, hce105, hMe105, hcc105⟩ := Kd.N_get HO_4.out z44 x5_1 p105 (by first | exact q105 | exact dt_ | (have e_ := (Kd.N_reads' HO_4.out).1; omega))
               obtain ⟨ua105_1, uc105_1, rfl, ul105_1, ge105_1⟩ := k44_openF hMe105
               have hv105_1 := hcc105 1 _ rfl
               rw [add_field _ _ 1 (by omega)] at hv105_1
               replace hv105_1 := Option.some.inj (hv105_1.symm.trans hx105_1)
               injection hv105_1 with hva_ hvn_ hvc_
               rw [hva_] at ge105_1
               rw [hvc_] at ul105_1
               have HL105_1 := am (show Kd.V k28 28 _ w.heap.size _ _ ((rd_T44 t102 x5_1).args) from Kd.V_mk ul105_1 ge105_1)
               clear hva_ hvn_ hvc_ ge105_1 ul105_1
               clear hcc105 hce105
               have HR105_1 := am hi105_1
               have HC105_1 := am hl105_1
               clear hi105_1 hl105_1
               replace p105 := eq_true p105
               replace q105 := eq_true q105
               try go_wp2_with (first | ((with_reducible refine gate_dst (N := 6) rfl ?_); (try (refine gate_guard (by rfl) ?_; dsimp only)); refine box_event ?hg (N := 6) ?hd (cs := #[.string (⟨#[]⟩ : ByteArray), .slice none 0 0]) (t := 44) ?hr ?_; (case hd => rfl); (case hg => rfl); (case hr => first | (go_simp; done) | (go_simp; rfl)); intro gb106 hg w430 hbox hb; replace HO_4 := am (Kd.N_below (Kd.N_elderB (by (with_reducible repeat (first | apply Kd.N_alloc | apply Kd.N_drewN | apply Kd.N_drew)); exact HO_4.out) gb106 (Nat.le_of_eq hg.symm)) hb); replace HL105_1 := am (Kd.V_below (Kd.V_elderB (pV HL105_1.out) gb106 (Nat.le_of_eq hg.symm)) hb); replace HR105_1 := am (Kd.C_below (by repeat (first | (with_reducible exact HR105_1.out) | (with_reducible refine Kd.C_alloc ?_ _) | (with_reducible refine Kd.C_drewN ?_ _) | (with_reducible refine Kd.C_drew ?_) | exact HR105_1.out)) hb); have BK106 := am (hbox); have GW106 := am (gw_ hg HB.out); have GE106 := GW106; replace HB := am (bs_ HB.out hb); clear hb hbox hg; obtain ⟨hcz431_0, hcz431_1, hfz431_0, hfz431_1⟩ := bc2 BK106.out))
               have n0_ : Aside0 (Kd.N k44 44 ((w430.setCell ⟨gb106, 0, none⟩ (.string ((rd_T44 t102 x5_1).pred))).setCell ⟨gb106, 1, none⟩ (.slice A105_1 ((rd_T44 t102 x5_1).args).length c105_1)) w.heap.size (fun k_ => k_ ≠ gb106) (.slice (some ad105) t102.length co429) t102) := ⟨by (with_reducible repeat (first | apply Kd.N_alloc | apply Kd.N_drewN | apply Kd.N_drew)); exact Kd.N_mono (Kd.N_far (p := ⟨gb106, 1, none⟩) (Kd.N_far (p := ⟨gb106, 0, none⟩) (Kd.N_mono HO_4.out (fun k_ hk => (⟨hk, hk.2⟩ : _ ∧ k_ ≠ gb106))) (fun _ hk => hk.2) _) (fun _ hk => hk.2) _) (fun _ hk => hk.1.2)⟩
               have n1_ : Aside0 (Kd.V k28 28 ((w430.setCell ⟨gb106, 0, none⟩ (.string ((rd_T44 t102 x5_1).pred))).setCell ⟨gb106, 1, none⟩ (.slice A105_1 ((rd_T44 t102 x5_1).args).length c105_1)) w.heap.size (fun k_ => some k_ ≠ (.slice (some ad105) t102.length co429 : Value).ownBlock ∧ k_ ≠ gb106) (.slice A105_1 ((rd_T44 t102 x5_1).args).length c105_1) ((rd_T44 t102 x5_1).args)) := ⟨by (with_reducible repeat (first | apply Va | apply Vn | apply Vd)); exact Kd.V_mono (Kd.V_far (p := ⟨gb106, 1, none⟩) (Kd.V_far (p := ⟨gb106, 0, none⟩) (Kd.V_mono HL105_1.out (fun k_ hk => (⟨hk, hk.2⟩ : _ ∧ k_ ≠ gb106))) (fun _ hk => hk.2) _) (fun _ hk => hk.2) _) (fun _ hk => ⟨hk.1.1.2, hk.1.2⟩)⟩
               have n2_ : Aside0 (((w430.setCell ⟨gb106, 0, none⟩ (.string ((rd_T44 t102 x5_1).pred))).setCell ⟨gb106, 1, none⟩ (.slice A105_1 ((rd_T44 t102 x5_1).args).length c105_1)).heap[gb106]? = some (.cells #[.string ((rd_T44 t102 x5_1).pred), .slice A105_1 ((rd_T44 t102 x5_1).args).length c105_1] 44 (0, 0))) := ⟨by (with_reducible repeat (first | refine bN ?_ _ | refine bD ?_ | refine bA ?_ _)); exact bq2 BK106.out⟩
               have n3_ : Aside0 (Below w.heap.size w ((w430.setCell ⟨gb106, 0, none⟩ (.string ((rd_T44 t102 x5_1).pred))).setCell ⟨gb106, 1, none⟩ (.slice A105_1 ((rd_T44 t102 x5_1).args).length c105_1))) := ⟨pL HB.out⟩
               (try clear HO_4)
               (try clear HL105_1)
               (try clear BK106)
               (try clear HB)
               generalize ((w430.setCell ⟨gb106, 0, none⟩ (.string ((rd_T44 t102 x5_1).pred))).setCell ⟨gb106, 1, none⟩ (.slice A105_1 ((rd_T44 t102 x5_1).args).length c105_1)) = w432 at n0_ n1_ n2_ n3_ ⊢
               have HO_4 := n0_
               have HL105_1 := n1_
               have BK106 := n2_
               have HB := n3_
               clear n0_ n1_ n2_ n3_
               replace HO_4 := am (Kd.N_drew HO_4.out)
               replace HL105_1 := am (Kd.V_drew HL105_1.out)
               replace BK106 := am (blk_drew BK106.out)
               replace HB := am (below_drew1 HB.out)
               refine start_ (n := 12) (S := fun w' => True) (ds := []) (bl 12 0) (by kernel_rfl) rfl rfl trivial (fun hHeld => ?_); refine with_tabW lambrequinlaw21_FactsSorted.tab9 lambrequinlaw21_FactsSorted.bits9 (fun HT_ HW_ => ?_)
               generalize w432.drew = w433 at HO_4 HL105_1 BK106 HB hHeld ⊢
               refine pure_ (i := 0) (N := some 26) (v := ?_) (a' := ?_) (bl 12 1) rfl rfl (any_of HT_.out (by kernel_rfl)) (fun _ _ _ h => h) (Or.inl ⟨by rfl, ?_⟩) ?_ ?_
               rotate_left
               ·intro w'
                go_simp
                with_reducible rfl
               rotate_left
               ·simp only [Act.put, sA, sZ, sS, i64_w, i32_w]
                rfl
               refine pure_ (i := 1) (N := some 27) (v := ?_) (a' := ?_) (bl 12 3) rfl rfl (any_of HT_.out (by kernel_rfl)) (fun _ _ _ h => h) (Or.inl ⟨by rfl, ?_⟩) ?_ ?_
               rotate_left
               ·intro w'
                go_simp
                with_reducible rfl
               rotate_left
               ·simp only [Act.put, sA, sZ, sS, i64_w, i32_w]
                rfl
               refine pure_ (i := 2) (N := some 28) (v := ?_) (a' := ?_) (bl 12 7) rfl rfl (any_of HT_.out (by kernel_rfl)) (fun _ _ _ h => h) (Or.inl ⟨by rfl, ?_⟩) ?_ ?_
               rotate_left
               ·intro w'
                go_simp
                with_reducible rfl
               rotate_left
               ·simp only [Act.put, sA, sZ, sS, i64_w, i32_w]
                rfl
               refine pure_ (i := 3) (N := some 29) (v := undef) (a' := ?_) (bl 12 15) rfl rfl (any_of HT_.out (by kernel_rfl)) (fun _ _ _ h => h) (Or.inr ⟨by rfl, rfl⟩) ?_ ?_
               rotate_left
               ·simp only [Act.put, sA, sZ, sS, i64_w, i32_w]
                rfl
               refine pure_ (i := 4) (N := some 30) (v := undef) (a' := ?_) (bl 12 31) rfl rfl (any_of HT_.out (by kernel_rfl)) (fun _ _ _ h => h) (Or.inr ⟨by rfl, rfl⟩) ?_ ?_
               rotate_left
               ·simp only [Act.put, sA, sZ, sS, i64_w, i32_w]
                rfl
               refine pure_ (i := 5) (N := some 31) (v := undef) (a' := ?_) (bl 12 63) rfl rfl (any_of HT_.out (by kernel_rfl)) (fun _ _ _ h => h) (Or.inr ⟨by rfl, rfl⟩) ?_ ?_
               rotate_left
               ·simp only [Act.put, sA, sZ, sS, i64_w, i32_w]
                rfl
               refine pure_ (i := 6) (N := some 32) (v := undef) (a' := ?_) (bl 12 127) rfl rfl (any_of HT_.out (by kernel_rfl)) (fun _ _ _ h => h) (Or.inr ⟨by rfl, rfl⟩) ?_ ?_
               rotate_left
               ·simp only [Act.put, sA, sZ, sS, i64_w, i32_w]
                rfl
               refine pure_ (i := 7) (N := some 33) (v := undef) (a' := ?_) (bl 12 255) rfl rfl (any_of HT_.out (by kernel_rfl)) (fun _ _ _ h => h) (Or.inr ⟨by rfl, rfl⟩) ?_ ?_
               rotate_left
               ·simp only [Act.put, sA, sZ, sS, i64_w, i32_w]
                rfl
               refine pure_ (i := 8) (N := some 34) (v := undef) (a' := ?_) (bl 12 511) rfl rfl (any_of HT_.out (by kernel_rfl)) (fun _ _ _ h => h) (Or.inr ⟨by rfl, rfl⟩) ?_ ?_
               rotate_left
               ·simp only [Act.put, sA, sZ, sS, i64_w, i32_w]
                rfl
               refine pure_ (i := 9) (N := some 35) (v := undef) (a' := ?_) (bl 12 1023) rfl rfl (any_of HT_.out (by kernel_rfl)) (fun _ _ _ h => h) (Or.inr ⟨by rfl, rfl⟩) ?_ ?_
               rotate_left
               ·simp only [Act.put, sA, sZ, sS, i64_w, i32_w]
                rfl
               refine pure_ (i := 10) (N := some 36) (v := undef) (a' := ?_) (bl 12 2047) rfl rfl (any_of HT_.out (by kernel_rfl)) (fun _ _ _ h => h) (Or.inr ⟨by rfl, rfl⟩) ?_ ?_
               rotate_left
               ·simp only [Act.put, sA, sZ, sS, i64_w, i32_w]
                rfl
               refine pure_ (i := 11) (N := some 37) (v := ?_) (a' := ?_) (bl 12 4095) rfl rfl (any_of HT_.out (by kernel_rfl)) (fun _ _ _ h => h) (Or.inl ⟨by rfl, ?_⟩) ?_ ?_
               rotate_left
               ·intro w'
                go_simp
                with_reducible rfl
               rotate_left
               ·simp only [Act.put, sA, sZ, sS, i64_w, i32_w]
                rfl
               refine done_ (done_of HT_.out (by kernel_rfl)) ?_
               obtain ⟨hcz434_0, hcz434_1, hfz434_0, hfz434_1⟩ := bc2 BK106.out
               try go_wp2_with (first | ((with_reducible refine gate_dst (N := 44) rfl ?_); (try (refine gate_guard (by rfl) ?_; dsimp only)); refine Kd.R_lit Kd.string _ 9 ?hg (N := 44) ?hd (xs := ([(⟨#[100, 101, 102]⟩ : ByteArray), (⟨#[102, 108, 111, 119]⟩ : ByteArray), (⟨#[110, 101, 120, 116]⟩ : ByteArray), (⟨#[110, 111, 100, 101]⟩ : ByteArray), (⟨#[115, 105, 110, 107]⟩ : ByteArray), (⟨#[115, 111, 117, 114, 99, 101]⟩ : ByteArray), (⟨#[117, 115, 101]⟩ : ByteArray)] : List ByteArray)) (inner := [.string (⟨#[100, 101, 102]⟩ : ByteArray), .string (⟨#[102, 108, 111, 119]⟩ : ByteArray), .string (⟨#[110, 101, 120, 116]⟩ : ByteArray), .string (⟨#[110, 111, 100, 101]⟩ : ByteArray), .string (⟨#[115, 105, 110, 107]⟩ : ByteArray), .string (⟨#[115, 111, 117, 114, 99, 101]⟩ : ByteArray), .string (⟨#[117, 115, 101]⟩ : ByteArray)]) (ok := fun _ => True) (okp := fun _ => True) ?hr ?hp (fun _ hk => hk) trivial (Below.refl _ _) (Nat.le_refl _) (by simp) ?_; (case hd => rfl); (case hg => rfl); (case hr => first | (go_simp; done) | (go_simp; rfl)); (case hp => exact (Reps.one (show Kd.M Kd.string _ _ _ (⟨#[100, 101, 102]⟩ : ByteArray) [.string (⟨#[100, 101, 102]⟩ : ByteArray)] from rfl) (Reps.one (show Kd.M Kd.string _ _ _ (⟨#[102, 108, 111, 119]⟩ : ByteArray) [.string (⟨#[102, 108, 111, 119]⟩ : ByteArray)] from rfl) (Reps.one (show Kd.M Kd.string _ _ _ (⟨#[110, 101, 120, 116]⟩ : ByteArray) [.string (⟨#[110, 101, 120, 116]⟩ : ByteArray)] from rfl) (Reps.one (show Kd.M Kd.string _ _ _ (⟨#[110, 111, 100, 101]⟩ : ByteArray) [.string (⟨#[110, 111, 100, 101]⟩ : ByteArray)] from rfl) (Reps.one (show Kd.M Kd.string _ _ _ (⟨#[115, 105, 110, 107]⟩ : ByteArray) [.string (⟨#[115, 105, 110, 107]⟩ : ByteArray)] from rfl) (Reps.one (show Kd.M Kd.string _ _ _ (⟨#[115, 111, 117, 114, 99, 101]⟩ : ByteArray) [.string (⟨#[115, 111, 117, 114, 99, 101]⟩ : ByteArray)] from rfl) (Reps.one (show Kd.M Kd.string _ _ _ (⟨#[117, 115, 101]⟩ : ByteArray) [.string (⟨#[117, 115, 101]⟩ : ByteArray)] from rfl) (Reps.none _ _))))))))); intro v145 w435 ho436 hb hg_ hnew_; clear hg_ hnew_; (first | rw [← Ny144.out] at ho436 | (simp only [Int.reduceToNat] at ho436; rw [← Ny144.out] at ho436)); replace HO_4 := am (Kd.N_elder' (by (with_reducible repeat (first | apply Kd.N_alloc | apply Kd.N_drewN | apply Kd.N_drew)); exact HO_4.out) (Kd.R_base ho436) hb); replace HL105_1 := am (Kd.V_elder' (pV HL105_1.out) (Kd.R_base ho436) hb); have HO146 := am (Kd.R_lower ho436 (below_size (pL HB.out))); replace BK106 := am (bb_ BK106.out hb); replace HB := am (bs_ HB.out hb); clear hb ho436; obtain ⟨hcz437_0, hcz437_1, hfz437_0, hfz437_1⟩ := bc2 BK106.out; obtain ⟨Ao438, co438, eo438⟩ := Kd.R_slice HO146.out; subst eo438) | ((with_reducible refine gate_callee (f := 13) rfl ?_); refine goesL_ (some 47) rfl rfl Try.func13 (by kernel_rfl) rfl #[.slice Ao438 y144.length co438, .string ((rd_T44 t102 x5_1).pred)] rfl (by (try simp only [List.map_toArray, List.map_cons, List.map_nil]); first | done | rfl | (simp only [List.length_drop, List.length_take]; rfl)) ?_; (with_reducible refine (lambrequinref09_In.calls k1 _ _ y144 ((rd_T44 t102 x5_1).pred) true _ ?side1 ?side2 A391.out).mono ?_); (case side1 => repeat (first | exact (Kd.R_reads' HO146.out).2.2 | (with_reducible refine Kd.C_alloc ?_ _) | (with_reducible refine Kd.C_drewN ?_ _) | (with_reducible refine Kd.C_drew ?_))); (case side2 => exact (Kd.R_reads' HO146.out).2.1); rintro e w' ⟨rfl, ⟨nd, rfl⟩⟩; refine ⟨_, rfl, ?_⟩; have p148 : 0 ≤ (0 : Int) := (by omega); have q148 : 0 < (((rd_T44 t102 x5_1).args).length : Int) := dt_; obtain ⟨ad148, e148, hx148_0, hx148_1, hx148_2⟩ := at_T28 ((Kd.V_reads' HL105_1.out).2.2) 0 p148 q148; (try rw [← Nbq395.out] at hx148_0); cases e148; have qi148 : (0 < ((rd_T44 t102 x5_1).args).length) = True := eq_true (by omega); (try rw [show ((0 : Int)).toNat = 0 from rfl] at hx148_0); (try rw [show 0 * 3 = 0 from rfl] at hx148_0); (try rw [Addr.add_zero'] at hx148_0); (try rw [show ((0 : Int)).toNat = 0 from rfl] at hx148_1); (try rw [show 0 * 3 = 0 from rfl] at hx148_1); (try rw [Addr.add_zero'] at hx148_1); (try rw [show ((0 : Int)).toNat = 0 from rfl] at hx148_2); (try rw [show 0 * 3 = 0 from rfl] at hx148_2); (try rw [Addr.add_zero'] at hx148_2); replace p148 := eq_true p148; replace q148 := eq_true q148; have p149 : 0 ≤ (0 : Int) := (by omega); have q149 : 0 < (((rd_T44 t102 x5_1).args).length : Int) := dt_; obtain ⟨ad149, e149, hx149_0, hx149_1, hx149_2⟩ := at_T28 ((Kd.V_reads' HL105_1.out).2.2) 0 p149 q149; (try rw [← Nbq395.out] at hx149_0); obtain rfl : ad148 = ad149 := (by injection e149); have qi149 : (0 < ((rd_T44 t102 x5_1).args).length) = True := eq_true (by omega); (try rw [show ((0 : Int)).toNat = 0 from rfl] at hx149_0); (try rw [show 0 * 3 = 0 from rfl] at hx149_0); (try rw [Addr.add_zero'] at hx149_0); (try rw [show ((0 : Int)).toNat = 0 from rfl] at hx149_1); (try rw [show 0 * 3 = 0 from rfl] at hx149_1); (try rw [Addr.add_zero'] at hx149_1); (try rw [show ((0 : Int)).toNat = 0 from rfl] at hx149_2); (try rw [show 0 * 3 = 0 from rfl] at hx149_2); (try rw [Addr.add_zero'] at hx149_2); replace p149 := eq_true p149; replace q149 := eq_true q149; have p150 : 0 ≤ (0 : Int) := (by omega); have q150 : 0 < (((rd_T44 t102 x5_1).args).length : Int) := dt_; obtain ⟨ad150, e150, hx150_0, hx150_1, hx150_2⟩ := at_T28 ((Kd.V_reads' HL105_1.out).2.2) 0 p150 q150; (try rw [← Nbq395.out] at hx150_0); obtain rfl : ad148 = ad150 := (by injection e150); have qi150 : (0 < ((rd_T44 t102 x5_1).args).length) = True := eq_true (by omega); (try rw [show ((0 : Int)).toNat = 0 from rfl] at hx150_0); (try rw [show 0 * 3 = 0 from rfl] at hx150_0); (try rw [Addr.add_zero'] at hx150_0); (try rw [show ((0 : Int)).toNat = 0 from rfl] at hx150_1); (try rw [show 0 * 3 = 0 from rfl] at hx150_1); (try rw [Addr.add_zero'] at hx150_1); (try rw [show ((0 : Int)).toNat = 0 from rfl] at hx150_2); (try rw [show 0 * 3 = 0 from rfl] at hx150_2); (try rw [Addr.add_zero'] at hx150_2); replace p150 := eq_true p150; replace q150 := eq_true q150))
               go_roundg k1
               case measure => have := HK1.out; omega
               case rel => exact ⟨(wrap64 (x5_1 + 1)), rs_, H', ⟨by have := HK1.out; omega⟩, ⟨by (with_reducible repeat (first | apply Kd.N_alloc | apply Kd.N_drewN | apply Kd.N_drew)); exact Kd.N_mono HO_4.out (fun _ hk => trivial)⟩, ⟨pL HB.out⟩⟩
           ·rw [if_neg c394] at H
            exact absurd H (by simp)
          ·rw [if_neg c393] at H
           exact absurd H (by simp)
         ·rw [if_neg c392] at H
          exact absurd H (by simp)
       ·rw [if_neg c321] at H
        have c321b0 : (((rd_T44 t102 x5_1).pred).toList == ([110, 111, 100, 101] : List UInt8)) = false := beq_eq_false_iff_ne.mpr c321
        have c321b1 : (((rd_T44 t102 x5_1).pred).toList != ([110, 111, 100, 101] : List UInt8)) = true := bne_iff_ne.mpr c321
        by_cases c459 : ((rd_T44 t102 x5_1).pred).toList = ([102, 108, 111, 119] : List UInt8)
        ·rw [if_pos c459] at H
         have c459b0 : (((rd_T44 t102 x5_1).pred).toList == ([102, 108, 111, 119] : List UInt8)) = true := beq_iff_eq.mpr c459
         have c459b1 : (((rd_T44 t102 x5_1).pred).toList != ([102, 108, 111, 119] : List UInt8)) = false := bne_eq_false_iff_eq.mpr c459
         clear c459
         obtain ⟨y151, hy151⟩ : ∃ y_ : List ByteArray, y_ = (([(⟨#[100, 101, 102]⟩ : ByteArray), (⟨#[102, 108, 111, 119]⟩ : ByteArray), (⟨#[110, 101, 120, 116]⟩ : ByteArray), (⟨#[110, 111, 100, 101]⟩ : ByteArray), (⟨#[115, 105, 110, 107]⟩ : ByteArray), (⟨#[115, 111, 117, 114, 99, 101]⟩ : ByteArray), (⟨#[117, 115, 101]⟩ : ByteArray)] : List ByteArray)) := ⟨_, rfl⟩
         replace H : ((lambrequinref09_In.f k1 y151 ((rd_T44 t102 x5_1).pred)).bind fun t154 => (if t154 = true then (if (((rd_T44 t102 x5_1).args).length : Int) = 3 then (if 0 < (((rd_T44 t102 x5_1).args).length : Int) then (if (rd_T28 ((rd_T44 t102 x5_1).args) 0).isSym = true then (none) else (if ((rd_T28 ((rd_T44 t102 x5_1).args) 0).n) < 0 then (none) else (if ((rd_T28 ((rd_T44 t102 x5_1).args) 0).n) ≥ (l0.length : Int) then (none) else (lambrequinlaw21_FactsSorted.l0 k1 l0 t101 t102 (wrap64 (x5_1 + 1)))))) else (none)) else (none)) else (none))) = some r := by first | (rw [hy151]; with_reducible exact H) | (have H2_ := (Option.bind_some _ _).symm.trans H; rw [hy151]; with_reducible exact H2_) | (have H2_ := (Option.bind_some _ _).symm.trans H; with_reducible exact H2_) | with_reducible exact H | (rw [hy151]; exact H) | exact H
         have Ny151 := am hy151
         clear hy151
         replace H := Option.bind_eq_some_iff.mp H
         obtain ⟨t154, A4600, H⟩ := H
         replace H : (if t154 = true then (if (((rd_T44 t102 x5_1).args).length : Int) = 3 then (if 0 < (((rd_T44 t102 x5_1).args).length : Int) then (if (rd_T28 ((rd_T44 t102 x5_1).args) 0).isSym = true then (none) else (if ((rd_T28 ((rd_T44 t102 x5_1).args) 0).n) < 0 then (none) else (if ((rd_T28 ((rd_T44 t102 x5_1).args) 0).n) ≥ (l0.length : Int) then (none) else (lambrequinlaw21_FactsSorted.l0 k1 l0 t101 t102 (wrap64 (x5_1 + 1)))))) else (none)) else (none)) else (none)) = some r := H
         have A460 := am A4600
         clear A4600
         by_cases c461 : t154 = true
         ·subst c461
          have H1 : (if (((rd_T44 t102 x5_1).args).length : Int) = 3 then (if 0 < (((rd_T44 t102 x5_1).args).length : Int) then (if (rd_T28 ((rd_T44 t102 x5_1).args) 0).isSym = true then (none) else (if ((rd_T28 ((rd_T44 t102 x5_1).args) 0).n) < 0 then (none) else (if ((rd_T28 ((rd_T44 t102 x5_1).args) 0).n) ≥ (l0.length : Int) then (none) else (lambrequinlaw21_FactsSorted.l0 k1 l0 t101 t102 (wrap64 (x5_1 + 1)))))) else (none)) else (none)) = some r := by rw [if_pos rfl] at H; exact H
          clear H
          have H := H1
          clear H1
          by_cases c462 : (((rd_T44 t102 x5_1).args).length : Int) = 3
          ·rw [if_pos c462] at H
           have c462b0 : ((((rd_T44 t102 x5_1).args).length : Int) == 3) = true := beq_iff_eq.mpr c462
           have c462b1 : ((((rd_T44 t102 x5_1).args).length : Int) != 3) = false := bne_eq_false_iff_eq.mpr c462
           clear c462
           by_cases c463 : 0 < (((rd_T44 t102 x5_1).args).length : Int)
           ·rw [if_pos c463] at H
            have c463b0 : decide (0 < (((rd_T44 t102 x5_1).args).length : Int)) = true := decide_eq_true c463
            have c463b1 : decide (0 < ((rd_T44 t102 x5_1).args).length) = true := decide_eq_true (by omega)
            clear c463
            obtain ⟨bq464, hbq464⟩ : ∃ b_ : Bool, b_ = ((rd_T28 ((rd_T44 t102 x5_1).args) 0).isSym) := ⟨_, rfl⟩
            replace H : (if bq464 = true then (none) else (if ((rd_T28 ((rd_T44 t102 x5_1).args) 0).n) < 0 then (none) else (if ((rd_T28 ((rd_T44 t102 x5_1).args) 0).n) ≥ (l0.length : Int) then (none) else (lambrequinlaw21_FactsSorted.l0 k1 l0 t101 t102 (wrap64 (x5_1 + 1)))))) = some r := by rw [← hbq464] at H; exact H
            have Nbq464 := am hbq464
            clear hbq464
            by_cases c465 : bq464 = true
            ·rw [if_pos c465] at H
             exact absurd H (by simp)
            ·replace c465 := Bool.eq_false_iff.mpr c465
             subst c465
             have H1 : (if ((rd_T28 ((rd_T44 t102 x5_1).args) 0).n) < 0 then (none) else (if ((rd_T28 ((rd_T44 t102 x5_1).args) 0).n) ≥ (l0.length : Int) then (none) else (lambrequinlaw21_FactsSorted.l0 k1 l0 t101 t102 (wrap64 (x5_1 + 1))))) = some r := by rw [if_neg (show ¬ (false = true) by decide)] at H; exact H
             clear H
             have H := H1
             clear H1
             by_cases c476 : ((rd_T28 ((rd_T44 t102 x5_1).args) 0).n) < 0
             ·rw [if_pos c476] at H
              exact absurd H (by simp)
             ·rw [if_neg c476] at H
              have c476b0 : decide (((rd_T28 ((rd_T44 t102 x5_1).args) 0).n) < 0) = false := decide_eq_false c476
              clear c476
              by_cases c487 : ((rd_T28 ((rd_T44 t102 x5_1).args) 0).n) ≥ (l0.length : Int)
              ·rw [if_pos c487] at H
               exact absurd H (by simp)
              ·rw [if_neg c487] at H
               have c487b0 : decide ((l0.length : Int) ≤ ((rd_T28 ((rd_T44 t102 x5_1).args) 0).n)) = false := decide_eq_false c487
               clear c487
               have H' := am H
               clear H
               obtain ⟨Ao498, co498, eo498⟩ := Kd.N_slice HO_4.out
               subst eo498
               have p105 : 0 ≤ (x5_1 : Int) := dt_
               have q105 : x5_1 < (t102.length : Int) := dt_
               obtain ⟨ad105, A105_1, c105_1, e105, hx105_0, hx105_1, hl105_1, hi105_1⟩ := at_T44 (Kd.N_reads' HO_4.out).2.2 x5_1 p105 q105
               cases e105
               obtain ⟨ce105, hce105, hMe105, hcc105⟩ := Kd.N_get HO_4.out z44 x5_1 p105 (by first | exact q105 | exact dt_ | (have e_ := (Kd.N_reads' HO_4.out).1; omega))
               obtain ⟨ua105_1, uc105_1, rfl, ul105_1, ge105_1⟩ := k44_openF hMe105
               have hv105_1 := hcc105 1 _ rfl
               rw [add_field _ _ 1 (by omega)] at hv105_1
               replace hv105_1 := Option.some.inj (hv105_1.symm.trans hx105_1)
               injection hv105_1 with hva_ hvn_ hvc_
               rw [hva_] at ge105_1
               rw [hvc_] at ul105_1
               have HL105_1 := am (show Kd.V k28 28 _ w.heap.size _ _ ((rd_T44 t102 x5_1).args) from Kd.V_mk ul105_1 ge105_1)
               clear hva_ hvn_ hvc_ ge105_1 ul105_1
               clear hcc105 hce105
               have HR105_1 := am hi105_1
               have HC105_1 := am hl105_1
               clear hi105_1 hl105_1
               replace p105 := eq_true p105
               replace q105 := eq_true q105
               try go_wp2_with (first | ((with_reducible refine gate_dst (N := 6) rfl ?_); (try (refine gate_guard (by rfl) ?_; dsimp only)); refine box_event ?hg (N := 6) ?hd (cs := #[.string (⟨#[]⟩ : ByteArray), .slice none 0 0]) (t := 44) ?hr ?_; (case hd => rfl); (case hg => rfl); (case hr => first | (go_simp; done) | (go_simp; rfl)); intro gb106 hg w499 hbox hb; replace HO_4 := am (Kd.N_below (Kd.N_elderB (by (with_reducible repeat (first | apply Kd.N_alloc | apply Kd.N_drewN | apply Kd.N_drew)); exact HO_4.out) gb106 (Nat.le_of_eq hg.symm)) hb); replace HL105_1 := am (Kd.V_below (Kd.V_elderB (pV HL105_1.out) gb106 (Nat.le_of_eq hg.symm)) hb); replace HR105_1 := am (Kd.C_below (by repeat (first | (with_reducible exact HR105_1.out) | (with_reducible refine Kd.C_alloc ?_ _) | (with_reducible refine Kd.C_drewN ?_ _) | (with_reducible refine Kd.C_drew ?_) | exact HR105_1.out)) hb); have BK106 := am (hbox); have GW106 := am (gw_ hg HB.out); have GE106 := GW106; replace HB := am (bs_ HB.out hb); clear hb hbox hg; obtain ⟨hcz500_0, hcz500_1, hfz500_0, hfz500_1⟩ := bc2 BK106.out))
               have n0_ : Aside0 (Kd.N k44 44 ((w499.setCell ⟨gb106, 0, none⟩ (.string ((rd_T44 t102 x5_1).pred))).setCell ⟨gb106, 1, none⟩ (.slice A105_1 ((rd_T44 t102 x5_1).args).length c105_1)) w.heap.size (fun k_ => k_ ≠ gb106) (.slice (some ad105) t102.length co498) t102) := ⟨by (with_reducible repeat (first | apply Kd.N_alloc | apply Kd.N_drewN | apply Kd.N_drew)); exact Kd.N_mono (Kd.N_far (p := ⟨gb106, 1, none⟩) (Kd.N_far (p := ⟨gb106, 0, none⟩) (Kd.N_mono HO_4.out (fun k_ hk => (⟨hk, hk.2⟩ : _ ∧ k_ ≠ gb106))) (fun _ hk => hk.2) _) (fun _ hk => hk.2) _) (fun _ hk => hk.1.2)⟩
               have n1_ : Aside0 (Kd.V k28 28 ((w499.setCell ⟨gb106, 0, none⟩ (.string ((rd_T44 t102 x5_1).pred))).setCell ⟨gb106, 1, none⟩ (.slice A105_1 ((rd_T44 t102 x5_1).args).length c105_1)) w.heap.size (fun k_ => some k_ ≠ (.slice (some ad105) t102.length co498 : Value).ownBlock ∧ k_ ≠ gb106) (.slice A105_1 ((rd_T44 t102 x5_1).args).length c105_1) ((rd_T44 t102 x5_1).args)) := ⟨by (with_reducible repeat (first | apply Va | apply Vn | apply Vd)); exact Kd.V_mono (Kd.V_far (p := ⟨gb106, 1, none⟩) (Kd.V_far (p := ⟨gb106, 0, none⟩) (Kd.V_mono HL105_1.out (fun k_ hk => (⟨hk, hk.2⟩ : _ ∧ k_ ≠ gb106))) (fun _ hk => hk.2) _) (fun _ hk => hk.2) _) (fun _ hk => ⟨hk.1.1.2, hk.1.2⟩)⟩
               have n2_ : Aside0 (((w499.setCell ⟨gb106, 0, none⟩ (.string ((rd_T44 t102 x5_1).pred))).setCell ⟨gb106, 1, none⟩ (.slice A105_1 ((rd_T44 t102 x5_1).args).length c105_1)).heap[gb106]? = some (.cells #[.string ((rd_T44 t102 x5_1).pred), .slice A105_1 ((rd_T44 t102 x5_1).args).length c105_1] 44 (0, 0))) := ⟨by (with_reducible repeat (first | refine bN ?_ _ | refine bD ?_ | refine bA ?_ _)); exact bq2 BK106.out⟩
               have n3_ : Aside0 (Below w.heap.size w ((w499.setCell ⟨gb106, 0, none⟩ (.string ((rd_T44 t102 x5_1).pred))).setCell ⟨gb106, 1, none⟩ (.slice A105_1 ((rd_T44 t102 x5_1).args).length c105_1))) := ⟨pL HB.out⟩
               (try clear HO_4)
               (try clear HL105_1)
               (try clear BK106)
               (try clear HB)
               generalize ((w499.setCell ⟨gb106, 0, none⟩ (.string ((rd_T44 t102 x5_1).pred))).setCell ⟨gb106, 1, none⟩ (.slice A105_1 ((rd_T44 t102 x5_1).args).length c105_1)) = w501 at n0_ n1_ n2_ n3_ ⊢
               have HO_4 := n0_
               have HL105_1 := n1_
               have BK106 := n2_
               have HB := n3_
               clear n0_ n1_ n2_ n3_
               replace HO_4 := am (Kd.N_drew HO_4.out)
               replace HL105_1 := am (Kd.V_drew HL105_1.out)
               replace BK106 := am (blk_drew BK106.out)
               replace HB := am (below_drew1 HB.out)
               refine start_ (n := 12) (S := fun w' => True) (ds := []) (bl 12 0) (by kernel_rfl) rfl rfl trivial (fun hHeld => ?_); refine with_tabW lambrequinlaw21_FactsSorted.tab9 lambrequinlaw21_FactsSorted.bits9 (fun HT_ HW_ => ?_)
               generalize w501.drew = w502 at HO_4 HL105_1 BK106 HB hHeld ⊢
               refine pure_ (i := 0) (N := some 26) (v := ?_) (a' := ?_) (bl 12 1) rfl rfl (any_of HT_.out (by kernel_rfl)) (fun _ _ _ h => h) (Or.inl ⟨by rfl, ?_⟩) ?_ ?_
               rotate_left
               ·intro w'
                go_simp
                with_reducible rfl
               rotate_left
               ·simp only [Act.put, sA, sZ, sS, i64_w, i32_w]
                rfl
               refine pure_ (i := 1) (N := some 27) (v := ?_) (a' := ?_) (bl 12 3) rfl rfl (any_of HT_.out (by kernel_rfl)) (fun _ _ _ h => h) (Or.inl ⟨by rfl, ?_⟩) ?_ ?_
               rotate_left
               ·intro w'
                go_simp
                with_reducible rfl
               rotate_left
               ·simp only [Act.put, sA, sZ, sS, i64_w, i32_w]
                rfl
               refine pure_ (i := 2) (N := some 28) (v := ?_) (a' := ?_) (bl 12 7) rfl rfl (any_of HT_.out (by kernel_rfl)) (fun _ _ _ h => h) (Or.inl ⟨by rfl, ?_⟩) ?_ ?_
               rotate_left
               ·intro w'
                go_simp
                with_reducible rfl
               rotate_left
               ·simp only [Act.put, sA, sZ, sS, i64_w, i32_w]
                rfl
               refine pure_ (i := 3) (N := some 29) (v := undef) (a' := ?_) (bl 12 15) rfl rfl (any_of HT_.out (by kernel_rfl)) (fun _ _ _ h => h) (Or.inr ⟨by rfl, rfl⟩) ?_ ?_
               rotate_left
               ·simp only [Act.put, sA, sZ, sS, i64_w, i32_w]
                rfl
               refine pure_ (i := 4) (N := some 30) (v := undef) (a' := ?_) (bl 12 31) rfl rfl (any_of HT_.out (by kernel_rfl)) (fun _ _ _ h => h) (Or.inr ⟨by rfl, rfl⟩) ?_ ?_
               rotate_left
               ·simp only [Act.put, sA, sZ, sS, i64_w, i32_w]
                rfl
               refine pure_ (i := 5) (N := some 31) (v := undef) (a' := ?_) (bl 12 63) rfl rfl (any_of HT_.out (by kernel_rfl)) (fun _ _ _ h => h) (Or.inr ⟨by rfl, rfl⟩) ?_ ?_
               rotate_left
               ·simp only [Act.put, sA, sZ, sS, i64_w, i32_w]
                rfl
               refine pure_ (i := 6) (N := some 32) (v := undef) (a' := ?_) (bl 12 127) rfl rfl (any_of HT_.out (by kernel_rfl)) (fun _ _ _ h => h) (Or.inr ⟨by rfl, rfl⟩) ?_ ?_
               rotate_left
               ·simp only [Act.put, sA, sZ, sS, i64_w, i32_w]
                rfl
               refine pure_ (i := 7) (N := some 33) (v := undef) (a' := ?_) (bl 12 255) rfl rfl (any_of HT_.out (by kernel_rfl)) (fun _ _ _ h => h) (Or.inr ⟨by rfl, rfl⟩) ?_ ?_
               rotate_left
               ·simp only [Act.put, sA, sZ, sS, i64_w, i32_w]
                rfl
               refine pure_ (i := 8) (N := some 34) (v := undef) (a' := ?_) (bl 12 511) rfl rfl (any_of HT_.out (by kernel_rfl)) (fun _ _ _ h => h) (Or.inr ⟨by rfl, rfl⟩) ?_ ?_
               rotate_left
               ·simp only [Act.put, sA, sZ, sS, i64_w, i32_w]
                rfl
               refine pure_ (i := 9) (N := some 35) (v := undef) (a' := ?_) (bl 12 1023) rfl rfl (any_of HT_.out (by kernel_rfl)) (fun _ _ _ h => h) (Or.inr ⟨by rfl, rfl⟩) ?_ ?_
               rotate_left
               ·simp only [Act.put, sA, sZ, sS, i64_w, i32_w]
                rfl
               refine pure_ (i := 10) (N := some 36) (v := undef) (a' := ?_) (bl 12 2047) rfl rfl (any_of HT_.out (by kernel_rfl)) (fun _ _ _ h => h) (Or.inr ⟨by rfl, rfl⟩) ?_ ?_
               rotate_left
               ·simp only [Act.put, sA, sZ, sS, i64_w, i32_w]
                rfl
               refine pure_ (i := 11) (N := some 37) (v := ?_) (a' := ?_) (bl 12 4095) rfl rfl (any_of HT_.out (by kernel_rfl)) (fun _ _ _ h => h) (Or.inl ⟨by rfl, ?_⟩) ?_ ?_
               rotate_left
               ·intro w'
                go_simp
                with_reducible rfl
               rotate_left
               ·simp only [Act.put, sA, sZ, sS, i64_w, i32_w]
                rfl
               refine done_ (done_of HT_.out (by kernel_rfl)) ?_
               obtain ⟨hcz503_0, hcz503_1, hfz503_0, hfz503_1⟩ := bc2 BK106.out
               try go_wp2_with (first | ((with_reducible refine gate_dst (N := 44) rfl ?_); (try (refine gate_guard (by rfl) ?_; dsimp only)); refine Kd.R_lit Kd.string _ 9 ?hg (N := 44) ?hd (xs := ([(⟨#[100, 101, 102]⟩ : ByteArray), (⟨#[102, 108, 111, 119]⟩ : ByteArray), (⟨#[110, 101, 120, 116]⟩ : ByteArray), (⟨#[110, 111, 100, 101]⟩ : ByteArray), (⟨#[115, 105, 110, 107]⟩ : ByteArray), (⟨#[115, 111, 117, 114, 99, 101]⟩ : ByteArray), (⟨#[117, 115, 101]⟩ : ByteArray)] : List ByteArray)) (inner := [.string (⟨#[100, 101, 102]⟩ : ByteArray), .string (⟨#[102, 108, 111, 119]⟩ : ByteArray), .string (⟨#[110, 101, 120, 116]⟩ : ByteArray), .string (⟨#[110, 111, 100, 101]⟩ : ByteArray), .string (⟨#[115, 105, 110, 107]⟩ : ByteArray), .string (⟨#[115, 111, 117, 114, 99, 101]⟩ : ByteArray), .string (⟨#[117, 115, 101]⟩ : ByteArray)]) (ok := fun _ => True) (okp := fun _ => True) ?hr ?hp (fun _ hk => hk) trivial (Below.refl _ _) (Nat.le_refl _) (by simp) ?_; (case hd => rfl); (case hg => rfl); (case hr => first | (go_simp; done) | (go_simp; rfl)); (case hp => exact (Reps.one (show Kd.M Kd.string _ _ _ (⟨#[100, 101, 102]⟩ : ByteArray) [.string (⟨#[100, 101, 102]⟩ : ByteArray)] from rfl) (Reps.one (show Kd.M Kd.string _ _ _ (⟨#[102, 108, 111, 119]⟩ : ByteArray) [.string (⟨#[102, 108, 111, 119]⟩ : ByteArray)] from rfl) (Reps.one (show Kd.M Kd.string _ _ _ (⟨#[110, 101, 120, 116]⟩ : ByteArray) [.string (⟨#[110, 101, 120, 116]⟩ : ByteArray)] from rfl) (Reps.one (show Kd.M Kd.string _ _ _ (⟨#[110, 111, 100, 101]⟩ : ByteArray) [.string (⟨#[110, 111, 100, 101]⟩ : ByteArray)] from rfl) (Reps.one (show Kd.M Kd.string _ _ _ (⟨#[115, 105, 110, 107]⟩ : ByteArray) [.string (⟨#[115, 105, 110, 107]⟩ : ByteArray)] from rfl) (Reps.one (show Kd.M Kd.string _ _ _ (⟨#[115, 111, 117, 114, 99, 101]⟩ : ByteArray) [.string (⟨#[115, 111, 117, 114, 99, 101]⟩ : ByteArray)] from rfl) (Reps.one (show Kd.M Kd.string _ _ _ (⟨#[117, 115, 101]⟩ : ByteArray) [.string (⟨#[117, 115, 101]⟩ : ByteArray)] from rfl) (Reps.none _ _))))))))); intro v152 w504 ho505 hb hg_ hnew_; clear hg_ hnew_; (first | rw [← Ny151.out] at ho505 | (simp only [Int.reduceToNat] at ho505; rw [← Ny151.out] at ho505)); replace HO_4 := am (Kd.N_elder' (by (with_reducible repeat (first | apply Kd.N_alloc | apply Kd.N_drewN | apply Kd.N_drew)); exact HO_4.out) (Kd.R_base ho505) hb); replace HL105_1 := am (Kd.V_elder' (pV HL105_1.out) (Kd.R_base ho505) hb); have HO153 := am (Kd.R_lower ho505 (below_size (pL HB.out))); replace BK106 := am (bb_ BK106.out hb); replace HB := am (bs_ HB.out hb); clear hb ho505; obtain ⟨hcz506_0, hcz506_1, hfz506_0, hfz506_1⟩ := bc2 BK106.out; obtain ⟨Ao507, co507, eo507⟩ := Kd.R_slice HO153.out; subst eo507) | ((with_reducible refine gate_callee (f := 13) rfl ?_); refine goesL_ (some 47) rfl rfl Try.func13 (by kernel_rfl) rfl #[.slice Ao507 y151.length co507, .string ((rd_T44 t102 x5_1).pred)] rfl (by (try simp only [List.map_toArray, List.map_cons, List.map_nil]); first | done | rfl | (simp only [List.length_drop, List.length_take]; rfl)) ?_; (with_reducible refine (lambrequinref09_In.calls k1 _ _ y151 ((rd_T44 t102 x5_1).pred) true _ ?side1 ?side2 A460.out).mono ?_); (case side1 => repeat (first | exact (Kd.R_reads' HO153.out).2.2 | (with_reducible refine Kd.C_alloc ?_ _) | (with_reducible refine Kd.C_drewN ?_ _) | (with_reducible refine Kd.C_drew ?_))); (case side2 => exact (Kd.R_reads' HO153.out).2.1); rintro e w' ⟨rfl, ⟨nd, rfl⟩⟩; refine ⟨_, rfl, ?_⟩; have p155 : 0 ≤ (0 : Int) := (by omega); have q155 : 0 < (((rd_T44 t102 x5_1).args).length : Int) := dt_; obtain ⟨ad155, e155, hx155_0, hx155_1, hx155_2⟩ := at_T28 ((Kd.V_reads' HL105_1.out).2.2) 0 p155 q155; (try rw [← Nbq464.out] at hx155_0); cases e155; have qi155 : (0 < ((rd_T44 t102 x5_1).args).length) = True := eq_true (by omega); (try rw [show ((0 : Int)).toNat = 0 from rfl] at hx155_0); (try rw [show 0 * 3 = 0 from rfl] at hx155_0); (try rw [Addr.add_zero'] at hx155_0); (try rw [show ((0 : Int)).toNat = 0 from rfl] at hx155_1); (try rw [show 0 * 3 = 0 from rfl] at hx155_1); (try rw [Addr.add_zero'] at hx155_1); (try rw [show ((0 : Int)).toNat = 0 from rfl] at hx155_2); (try rw [show 0 * 3 = 0 from rfl] at hx155_2); (try rw [Addr.add_zero'] at hx155_2); replace p155 := eq_true p155; replace q155 := eq_true q155; have p156 : 0 ≤ (0 : Int) := (by omega); have q156 : 0 < (((rd_T44 t102 x5_1).args).length : Int) := dt_; obtain ⟨ad156, e156, hx156_0, hx156_1, hx156_2⟩ := at_T28 ((Kd.V_reads' HL105_1.out).2.2) 0 p156 q156; (try rw [← Nbq464.out] at hx156_0); obtain rfl : ad155 = ad156 := (by injection e156); have qi156 : (0 < ((rd_T44 t102 x5_1).args).length) = True := eq_true (by omega); (try rw [show ((0 : Int)).toNat = 0 from rfl] at hx156_0); (try rw [show 0 * 3 = 0 from rfl] at hx156_0); (try rw [Addr.add_zero'] at hx156_0); (try rw [show ((0 : Int)).toNat = 0 from rfl] at hx156_1); (try rw [show 0 * 3 = 0 from rfl] at hx156_1); (try rw [Addr.add_zero'] at hx156_1); (try rw [show ((0 : Int)).toNat = 0 from rfl] at hx156_2); (try rw [show 0 * 3 = 0 from rfl] at hx156_2); (try rw [Addr.add_zero'] at hx156_2); replace p156 := eq_true p156; replace q156 := eq_true q156; have p157 : 0 ≤ (0 : Int) := (by omega); have q157 : 0 < (((rd_T44 t102 x5_1).args).length : Int) := dt_; obtain ⟨ad157, e157, hx157_0, hx157_1, hx157_2⟩ := at_T28 ((Kd.V_reads' HL105_1.out).2.2) 0 p157 q157; (try rw [← Nbq464.out] at hx157_0); obtain rfl : ad155 = ad157 := (by injection e157); have qi157 : (0 < ((rd_T44 t102 x5_1).args).length) = True := eq_true (by omega); (try rw [show ((0 : Int)).toNat = 0 from rfl] at hx157_0); (try rw [show 0 * 3 = 0 from rfl] at hx157_0); (try rw [Addr.add_zero'] at hx157_0); (try rw [show ((0 : Int)).toNat = 0 from rfl] at hx157_1); (try rw [show 0 * 3 = 0 from rfl] at hx157_1); (try rw [Addr.add_zero'] at hx157_1); (try rw [show ((0 : Int)).toNat = 0 from rfl] at hx157_2); (try rw [show 0 * 3 = 0 from rfl] at hx157_2); (try rw [Addr.add_zero'] at hx157_2); replace p157 := eq_true p157; replace q157 := eq_true q157))
               go_roundg k1
               case measure => have := HK1.out; omega
               case rel => exact ⟨(wrap64 (x5_1 + 1)), rs_, H', ⟨by have := HK1.out; omega⟩, ⟨by (with_reducible repeat (first | apply Kd.N_alloc | apply Kd.N_drewN | apply Kd.N_drew)); exact Kd.N_mono HO_4.out (fun _ hk => trivial)⟩, ⟨pL HB.out⟩⟩
           ·rw [if_neg c463] at H
            exact absurd H (by simp)
          ·rw [if_neg c462] at H
           exact absurd H (by simp)
         ·rw [if_neg c461] at H
          exact absurd H (by simp)
        ·rw [if_neg c459] at H
         have c459b0 : (((rd_T44 t102 x5_1).pred).toList == ([102, 108, 111, 119] : List UInt8)) = false := beq_eq_false_iff_ne.mpr c459
         have c459b1 : (((rd_T44 t102 x5_1).pred).toList != ([102, 108, 111, 119] : List UInt8)) = true := bne_iff_ne.mpr c459
         obtain ⟨y158, hy158⟩ : ∃ y_ : List ByteArray, y_ = (([(⟨#[100, 101, 102]⟩ : ByteArray), (⟨#[102, 108, 111, 119]⟩ : ByteArray), (⟨#[110, 101, 120, 116]⟩ : ByteArray), (⟨#[110, 111, 100, 101]⟩ : ByteArray), (⟨#[115, 105, 110, 107]⟩ : ByteArray), (⟨#[115, 111, 117, 114, 99, 101]⟩ : ByteArray), (⟨#[117, 115, 101]⟩ : ByteArray)] : List ByteArray)) := ⟨_, rfl⟩
         replace H : ((lambrequinref09_In.f k1 y158 ((rd_T44 t102 x5_1).pred)).bind fun t161 => (if t161 = true then (if (((rd_T44 t102 x5_1).args).length : Int) = 2 then (if 0 < (((rd_T44 t102 x5_1).args).length : Int) then (if (rd_T28 ((rd_T44 t102 x5_1).args) 0).isSym = true then (none) else (if ((rd_T28 ((rd_T44 t102 x5_1).args) 0).n) < 0 then (none) else (if ((rd_T28 ((rd_T44 t102 x5_1).args) 0).n) ≥ (l0.length : Int) then (none) else (lambrequinlaw21_FactsSorted.l0 k1 l0 t101 t102 (wrap64 (x5_1 + 1)))))) else (none)) else (none)) else (none))) = some r := by first | (rw [hy158]; with_reducible exact H) | (have H2_ := (Option.bind_some _ _).symm.trans H; rw [hy158]; with_reducible exact H2_) | (have H2_ := (Option.bind_some _ _).symm.trans H; with_reducible exact H2_) | with_reducible exact H | (rw [hy158]; exact H) | exact H
         have Ny158 := am hy158
         clear hy158
         replace H := Option.bind_eq_some_iff.mp H
         obtain ⟨t161, A5280, H⟩ := H
         replace H : (if t161 = true then (if (((rd_T44 t102 x5_1).args).length : Int) = 2 then (if 0 < (((rd_T44 t102 x5_1).args).length : Int) then (if (rd_T28 ((rd_T44 t102 x5_1).args) 0).isSym = true then (none) else (if ((rd_T28 ((rd_T44 t102 x5_1).args) 0).n) < 0 then (none) else (if ((rd_T28 ((rd_T44 t102 x5_1).args) 0).n) ≥ (l0.length : Int) then (none) else (lambrequinlaw21_FactsSorted.l0 k1 l0 t101 t102 (wrap64 (x5_1 + 1)))))) else (none)) else (none)) else (none)) = some r := H
         have A528 := am A5280
         clear A5280
         by_cases c529 : t161 = true
         ·subst c529
          have H1 : (if (((rd_T44 t102 x5_1).args).length : Int) = 2 then (if 0 < (((rd_T44 t102 x5_1).args).length : Int) then (if (rd_T28 ((rd_T44 t102 x5_1).args) 0).isSym = true then (none) else (if ((rd_T28 ((rd_T44 t102 x5_1).args) 0).n) < 0 then (none) else (if ((rd_T28 ((rd_T44 t102 x5_1).args) 0).n) ≥ (l0.length : Int) then (none) else (lambrequinlaw21_FactsSorted.l0 k1 l0 t101 t102 (wrap64 (x5_1 + 1)))))) else (none)) else (none)) = some r := by rw [if_pos rfl] at H; exact H
          clear H
          have H := H1
          clear H1
          by_cases c530 : (((rd_T44 t102 x5_1).args).length : Int) = 2
          ·rw [if_pos c530] at H
           have c530b0 : ((((rd_T44 t102 x5_1).args).length : Int) == 2) = true := beq_iff_eq.mpr c530
           have c530b1 : ((((rd_T44 t102 x5_1).args).length : Int) != 2) = false := bne_eq_false_iff_eq.mpr c530
           clear c530
           by_cases c531 : 0 < (((rd_T44 t102 x5_1).args).length : Int)
           ·rw [if_pos c531] at H
            have c531b0 : decide (0 < (((rd_T44 t102 x5_1).args).length : Int)) = true := decide_eq_true c531
            have c531b1 : decide (0 < ((rd_T44 t102 x5_1).args).length) = true := decide_eq_true (by omega)
            clear c531
            obtain ⟨bq532, hbq532⟩ : ∃ b_ : Bool, b_ = ((rd_T28 ((rd_T44 t102 x5_1).args) 0).isSym) := ⟨_, rfl⟩
            replace H : (if bq532 = true then (none) else (if ((rd_T28 ((rd_T44 t102 x5_1).args) 0).n) < 0 then (none) else (if ((rd_T28 ((rd_T44 t102 x5_1).args) 0).n) ≥ (l0.length : Int) then (none) else (lambrequinlaw21_FactsSorted.l0 k1 l0 t101 t102 (wrap64 (x5_1 + 1)))))) = some r := by rw [← hbq532] at H; exact H
            have Nbq532 := am hbq532
            clear hbq532
            by_cases c533 : bq532 = true
            ·rw [if_pos c533] at H
             exact absurd H (by simp)
            ·replace c533 := Bool.eq_false_iff.mpr c533
             subst c533
             have H1 : (if ((rd_T28 ((rd_T44 t102 x5_1).args) 0).n) < 0 then (none) else (if ((rd_T28 ((rd_T44 t102 x5_1).args) 0).n) ≥ (l0.length : Int) then (none) else (lambrequinlaw21_FactsSorted.l0 k1 l0 t101 t102 (wrap64 (x5_1 + 1))))) = some r := by rw [if_neg (show ¬ (false = true) by decide)] at H; exact H
             clear H
             have H := H1
             clear H1
             by_cases c544 : ((rd_T28 ((rd_T44 t102 x5_1).args) 0).n) < 0
             ·rw [if_pos c544] at H
              exact absurd H (by simp)
             ·rw [if_neg c544] at H
              have c544b0 : decide (((rd_T28 ((rd_T44 t102 x5_1).args) 0).n) < 0) = false := decide_eq_false c544
              clear c544
              by_cases c555 : ((rd_T28 ((rd_T44 t102 x5_1).args) 0).n) ≥ (l0.length : Int)
              ·rw [if_pos c555] at H
               exact absurd H (by simp)
              ·rw [if_neg c555] at H
               have c555b0 : decide ((l0.length : Int) ≤ ((rd_T28 ((rd_T44 t102 x5_1).args) 0).n)) = false := decide_eq_false c555
               clear c555
               have H' := am H
               clear H
               obtain ⟨Ao566, co566, eo566⟩ := Kd.N_slice HO_4.out
               subst eo566
               have p105 : 0 ≤ (x5_1 : Int) := dt_
               have q105 : x5_1 < (t102.length : Int) := dt_
               obtain ⟨ad105, A105_1, c105_1, e105, hx105_0, hx105_1, hl105_1, hi105_1⟩ := at_T44 (Kd.N_reads' HO_4.out).2.2 x5_1 p105 q105
               cases e105
               obtain ⟨ce105, hce105, hMe105, hcc105⟩ := Kd.N_get HO_4.out z44 x5_1 p105 (by first | exact q105 | exact dt_ | (have e_ := (Kd.N_reads' HO_4.out).1; omega))
               obtain ⟨ua105_1, uc105_1, rfl, ul105_1, ge105_1⟩ := k44_openF hMe105
               have hv105_1 := hcc105 1 _ rfl
               rw [add_field _ _ 1 (by omega)] at hv105_1
               replace hv105_1 := Option.some.inj (hv105_1.symm.trans hx105_1)
               injection hv105_1 with hva_ hvn_ hvc_
               rw [hva_] at ge105_1
               rw [hvc_] at ul105_1
               have HL105_1 := am (show Kd.V k28 28 _ w.heap.size _ _ ((rd_T44 t102 x5_1).args) from Kd.V_mk ul105_1 ge105_1)
               clear hva_ hvn_ hvc_ ge105_1 ul105_1
               clear hcc105 hce105
               have HR105_1 := am hi105_1
               have HC105_1 := am hl105_1
               clear hi105_1 hl105_1
               replace p105 := eq_true p105
               replace q105 := eq_true q105
               try go_wp2_with (first | ((with_reducible refine gate_dst (N := 6) rfl ?_); (try (refine gate_guard (by rfl) ?_; dsimp only)); refine box_event ?hg (N := 6) ?hd (cs := #[.string (⟨#[]⟩ : ByteArray), .slice none 0 0]) (t := 44) ?hr ?_; (case hd => rfl); (case hg => rfl); (case hr => first | (go_simp; done) | (go_simp; rfl)); intro gb106 hg w567 hbox hb; replace HO_4 := am (Kd.N_below (Kd.N_elderB (by (with_reducible repeat (first | apply Kd.N_alloc | apply Kd.N_drewN | apply Kd.N_drew)); exact HO_4.out) gb106 (Nat.le_of_eq hg.symm)) hb); replace HL105_1 := am (Kd.V_below (Kd.V_elderB (pV HL105_1.out) gb106 (Nat.le_of_eq hg.symm)) hb); replace HR105_1 := am (Kd.C_below (by repeat (first | (with_reducible exact HR105_1.out) | (with_reducible refine Kd.C_alloc ?_ _) | (with_reducible refine Kd.C_drewN ?_ _) | (with_reducible refine Kd.C_drew ?_) | exact HR105_1.out)) hb); have BK106 := am (hbox); have GW106 := am (gw_ hg HB.out); have GE106 := GW106; replace HB := am (bs_ HB.out hb); clear hb hbox hg; obtain ⟨hcz568_0, hcz568_1, hfz568_0, hfz568_1⟩ := bc2 BK106.out))
               have n0_ : Aside0 (Kd.N k44 44 ((w567.setCell ⟨gb106, 0, none⟩ (.string ((rd_T44 t102 x5_1).pred))).setCell ⟨gb106, 1, none⟩ (.slice A105_1 ((rd_T44 t102 x5_1).args).length c105_1)) w.heap.size (fun k_ => k_ ≠ gb106) (.slice (some ad105) t102.length co566) t102) := ⟨by (with_reducible repeat (first | apply Kd.N_alloc | apply Kd.N_drewN | apply Kd.N_drew)); exact Kd.N_mono (Kd.N_far (p := ⟨gb106, 1, none⟩) (Kd.N_far (p := ⟨gb106, 0, none⟩) (Kd.N_mono HO_4.out (fun k_ hk => (⟨hk, hk.2⟩ : _ ∧ k_ ≠ gb106))) (fun _ hk => hk.2) _) (fun _ hk => hk.2) _) (fun _ hk => hk.1.2)⟩
               have n1_ : Aside0 (Kd.V k28 28 ((w567.setCell ⟨gb106, 0, none⟩ (.string ((rd_T44 t102 x5_1).pred))).setCell ⟨gb106, 1, none⟩ (.slice A105_1 ((rd_T44 t102 x5_1).args).length c105_1)) w.heap.size (fun k_ => some k_ ≠ (.slice (some ad105) t102.length co566 : Value).ownBlock ∧ k_ ≠ gb106) (.slice A105_1 ((rd_T44 t102 x5_1).args).length c105_1) ((rd_T44 t102 x5_1).args)) := ⟨by (with_reducible repeat (first | apply Va | apply Vn | apply Vd)); exact Kd.V_mono (Kd.V_far (p := ⟨gb106, 1, none⟩) (Kd.V_far (p := ⟨gb106, 0, none⟩) (Kd.V_mono HL105_1.out (fun k_ hk => (⟨hk, hk.2⟩ : _ ∧ k_ ≠ gb106))) (fun _ hk => hk.2) _) (fun _ hk => hk.2) _) (fun _ hk => ⟨hk.1.1.2, hk.1.2⟩)⟩
               have n2_ : Aside0 (((w567.setCell ⟨gb106, 0, none⟩ (.string ((rd_T44 t102 x5_1).pred))).setCell ⟨gb106, 1, none⟩ (.slice A105_1 ((rd_T44 t102 x5_1).args).length c105_1)).heap[gb106]? = some (.cells #[.string ((rd_T44 t102 x5_1).pred), .slice A105_1 ((rd_T44 t102 x5_1).args).length c105_1] 44 (0, 0))) := ⟨by (with_reducible repeat (first | refine bN ?_ _ | refine bD ?_ | refine bA ?_ _)); exact bq2 BK106.out⟩
               have n3_ : Aside0 (Below w.heap.size w ((w567.setCell ⟨gb106, 0, none⟩ (.string ((rd_T44 t102 x5_1).pred))).setCell ⟨gb106, 1, none⟩ (.slice A105_1 ((rd_T44 t102 x5_1).args).length c105_1))) := ⟨pL HB.out⟩
               (try clear HO_4)
               (try clear HL105_1)
               (try clear BK106)
               (try clear HB)
               generalize ((w567.setCell ⟨gb106, 0, none⟩ (.string ((rd_T44 t102 x5_1).pred))).setCell ⟨gb106, 1, none⟩ (.slice A105_1 ((rd_T44 t102 x5_1).args).length c105_1)) = w569 at n0_ n1_ n2_ n3_ ⊢
               have HO_4 := n0_
               have HL105_1 := n1_
               have BK106 := n2_
               have HB := n3_
               clear n0_ n1_ n2_ n3_
               replace HO_4 := am (Kd.N_drew HO_4.out)
               replace HL105_1 := am (Kd.V_drew HL105_1.out)
               replace BK106 := am (blk_drew BK106.out)
               replace HB := am (below_drew1 HB.out)
               refine start_ (n := 12) (S := fun w' => True) (ds := []) (bl 12 0) (by kernel_rfl) rfl rfl trivial (fun hHeld => ?_); refine with_tabW lambrequinlaw21_FactsSorted.tab9 lambrequinlaw21_FactsSorted.bits9 (fun HT_ HW_ => ?_)
               generalize w569.drew = w570 at HO_4 HL105_1 BK106 HB hHeld ⊢
               refine pure_ (i := 0) (N := some 26) (v := ?_) (a' := ?_) (bl 12 1) rfl rfl (any_of HT_.out (by kernel_rfl)) (fun _ _ _ h => h) (Or.inl ⟨by rfl, ?_⟩) ?_ ?_
               rotate_left
               ·intro w'
                go_simp
                with_reducible rfl
               rotate_left
               ·simp only [Act.put, sA, sZ, sS, i64_w, i32_w]
                rfl
               refine pure_ (i := 1) (N := some 27) (v := ?_) (a' := ?_) (bl 12 3) rfl rfl (any_of HT_.out (by kernel_rfl)) (fun _ _ _ h => h) (Or.inl ⟨by rfl, ?_⟩) ?_ ?_
               rotate_left
               ·intro w'
                go_simp
                with_reducible rfl
               rotate_left
               ·simp only [Act.put, sA, sZ, sS, i64_w, i32_w]
                rfl
               refine pure_ (i := 2) (N := some 28) (v := ?_) (a' := ?_) (bl 12 7) rfl rfl (any_of HT_.out (by kernel_rfl)) (fun _ _ _ h => h) (Or.inl ⟨by rfl, ?_⟩) ?_ ?_
               rotate_left
               ·intro w'
                go_simp
                with_reducible rfl
               rotate_left
               ·simp only [Act.put, sA, sZ, sS, i64_w, i32_w]
                rfl
               refine pure_ (i := 3) (N := some 29) (v := undef) (a' := ?_) (bl 12 15) rfl rfl (any_of HT_.out (by kernel_rfl)) (fun _ _ _ h => h) (Or.inr ⟨by rfl, rfl⟩) ?_ ?_
               rotate_left
               ·simp only [Act.put, sA, sZ, sS, i64_w, i32_w]
                rfl
               refine pure_ (i := 4) (N := some 30) (v := undef) (a' := ?_) (bl 12 31) rfl rfl (any_of HT_.out (by kernel_rfl)) (fun _ _ _ h => h) (Or.inr ⟨by rfl, rfl⟩) ?_ ?_
               rotate_left
               ·simp only [Act.put, sA, sZ, sS, i64_w, i32_w]
                rfl
               refine pure_ (i := 5) (N := some 31) (v := undef) (a' := ?_) (bl 12 63) rfl rfl (any_of HT_.out (by kernel_rfl)) (fun _ _ _ h => h) (Or.inr ⟨by rfl, rfl⟩) ?_ ?_
               rotate_left
               ·simp only [Act.put, sA, sZ, sS, i64_w, i32_w]
                rfl
               refine pure_ (i := 6) (N := some 32) (v := undef) (a' := ?_) (bl 12 127) rfl rfl (any_of HT_.out (by kernel_rfl)) (fun _ _ _ h => h) (Or.inr ⟨by rfl, rfl⟩) ?_ ?_
               rotate_left
               ·simp only [Act.put, sA, sZ, sS, i64_w, i32_w]
                rfl
               refine pure_ (i := 7) (N := some 33) (v := undef) (a' := ?_) (bl 12 255) rfl rfl (any_of HT_.out (by kernel_rfl)) (fun _ _ _ h => h) (Or.inr ⟨by rfl, rfl⟩) ?_ ?_
               rotate_left
               ·simp only [Act.put, sA, sZ, sS, i64_w, i32_w]
                rfl
               refine pure_ (i := 8) (N := some 34) (v := undef) (a' := ?_) (bl 12 511) rfl rfl (any_of HT_.out (by kernel_rfl)) (fun _ _ _ h => h) (Or.inr ⟨by rfl, rfl⟩) ?_ ?_
               rotate_left
               ·simp only [Act.put, sA, sZ, sS, i64_w, i32_w]
                rfl
               refine pure_ (i := 9) (N := some 35) (v := undef) (a' := ?_) (bl 12 1023) rfl rfl (any_of HT_.out (by kernel_rfl)) (fun _ _ _ h => h) (Or.inr ⟨by rfl, rfl⟩) ?_ ?_
               rotate_left
               ·simp only [Act.put, sA, sZ, sS, i64_w, i32_w]
                rfl
               refine pure_ (i := 10) (N := some 36) (v := undef) (a' := ?_) (bl 12 2047) rfl rfl (any_of HT_.out (by kernel_rfl)) (fun _ _ _ h => h) (Or.inr ⟨by rfl, rfl⟩) ?_ ?_
               rotate_left
               ·simp only [Act.put, sA, sZ, sS, i64_w, i32_w]
                rfl
               refine pure_ (i := 11) (N := some 37) (v := ?_) (a' := ?_) (bl 12 4095) rfl rfl (any_of HT_.out (by kernel_rfl)) (fun _ _ _ h => h) (Or.inl ⟨by rfl, ?_⟩) ?_ ?_
               rotate_left
               ·intro w'
                go_simp
                with_reducible rfl
               rotate_left
               ·simp only [Act.put, sA, sZ, sS, i64_w, i32_w]
                rfl
               refine done_ (done_of HT_.out (by kernel_rfl)) ?_
               obtain ⟨hcz571_0, hcz571_1, hfz571_0, hfz571_1⟩ := bc2 BK106.out
               try go_wp2_with (first | ((with_reducible refine gate_dst (N := 44) rfl ?_); (try (refine gate_guard (by rfl) ?_; dsimp only)); refine Kd.R_lit Kd.string _ 9 ?hg (N := 44) ?hd (xs := ([(⟨#[100, 101, 102]⟩ : ByteArray), (⟨#[102, 108, 111, 119]⟩ : ByteArray), (⟨#[110, 101, 120, 116]⟩ : ByteArray), (⟨#[110, 111, 100, 101]⟩ : ByteArray), (⟨#[115, 105, 110, 107]⟩ : ByteArray), (⟨#[115, 111, 117, 114, 99, 101]⟩ : ByteArray), (⟨#[117, 115, 101]⟩ : ByteArray)] : List ByteArray)) (inner := [.string (⟨#[100, 101, 102]⟩ : ByteArray), .string (⟨#[102, 108, 111, 119]⟩ : ByteArray), .string (⟨#[110, 101, 120, 116]⟩ : ByteArray), .string (⟨#[110, 111, 100, 101]⟩ : ByteArray), .string (⟨#[115, 105, 110, 107]⟩ : ByteArray), .string (⟨#[115, 111, 117, 114, 99, 101]⟩ : ByteArray), .string (⟨#[117, 115, 101]⟩ : ByteArray)]) (ok := fun _ => True) (okp := fun _ => True) ?hr ?hp (fun _ hk => hk) trivial (Below.refl _ _) (Nat.le_refl _) (by simp) ?_; (case hd => rfl); (case hg => rfl); (case hr => first | (go_simp; done) | (go_simp; rfl)); (case hp => exact (Reps.one (show Kd.M Kd.string _ _ _ (⟨#[100, 101, 102]⟩ : ByteArray) [.string (⟨#[100, 101, 102]⟩ : ByteArray)] from rfl) (Reps.one (show Kd.M Kd.string _ _ _ (⟨#[102, 108, 111, 119]⟩ : ByteArray) [.string (⟨#[102, 108, 111, 119]⟩ : ByteArray)] from rfl) (Reps.one (show Kd.M Kd.string _ _ _ (⟨#[110, 101, 120, 116]⟩ : ByteArray) [.string (⟨#[110, 101, 120, 116]⟩ : ByteArray)] from rfl) (Reps.one (show Kd.M Kd.string _ _ _ (⟨#[110, 111, 100, 101]⟩ : ByteArray) [.string (⟨#[110, 111, 100, 101]⟩ : ByteArray)] from rfl) (Reps.one (show Kd.M Kd.string _ _ _ (⟨#[115, 105, 110, 107]⟩ : ByteArray) [.string (⟨#[115, 105, 110, 107]⟩ : ByteArray)] from rfl) (Reps.one (show Kd.M Kd.string _ _ _ (⟨#[115, 111, 117, 114, 99, 101]⟩ : ByteArray) [.string (⟨#[115, 111, 117, 114, 99, 101]⟩ : ByteArray)] from rfl) (Reps.one (show Kd.M Kd.string _ _ _ (⟨#[117, 115, 101]⟩ : ByteArray) [.string (⟨#[117, 115, 101]⟩ : ByteArray)] from rfl) (Reps.none _ _))))))))); intro v159 w572 ho573 hb hg_ hnew_; clear hg_ hnew_; (first | rw [← Ny158.out] at ho573 | (simp only [Int.reduceToNat] at ho573; rw [← Ny158.out] at ho573)); replace HO_4 := am (Kd.N_elder' (by (with_reducible repeat (first | apply Kd.N_alloc | apply Kd.N_drewN | apply Kd.N_drew)); exact HO_4.out) (Kd.R_base ho573) hb); replace HL105_1 := am (Kd.V_elder' (pV HL105_1.out) (Kd.R_base ho573) hb); have HO160 := am (Kd.R_lower ho573 (below_size (pL HB.out))); replace BK106 := am (bb_ BK106.out hb); replace HB := am (bs_ HB.out hb); clear hb ho573; obtain ⟨hcz574_0, hcz574_1, hfz574_0, hfz574_1⟩ := bc2 BK106.out; obtain ⟨Ao575, co575, eo575⟩ := Kd.R_slice HO160.out; subst eo575) | ((with_reducible refine gate_callee (f := 13) rfl ?_); refine goesL_ (some 47) rfl rfl Try.func13 (by kernel_rfl) rfl #[.slice Ao575 y158.length co575, .string ((rd_T44 t102 x5_1).pred)] rfl (by (try simp only [List.map_toArray, List.map_cons, List.map_nil]); first | done | rfl | (simp only [List.length_drop, List.length_take]; rfl)) ?_; (with_reducible refine (lambrequinref09_In.calls k1 _ _ y158 ((rd_T44 t102 x5_1).pred) true _ ?side1 ?side2 A528.out).mono ?_); (case side1 => repeat (first | exact (Kd.R_reads' HO160.out).2.2 | (with_reducible refine Kd.C_alloc ?_ _) | (with_reducible refine Kd.C_drewN ?_ _) | (with_reducible refine Kd.C_drew ?_))); (case side2 => exact (Kd.R_reads' HO160.out).2.1); rintro e w' ⟨rfl, ⟨nd, rfl⟩⟩; refine ⟨_, rfl, ?_⟩; have p162 : 0 ≤ (0 : Int) := (by omega); have q162 : 0 < (((rd_T44 t102 x5_1).args).length : Int) := dt_; obtain ⟨ad162, e162, hx162_0, hx162_1, hx162_2⟩ := at_T28 ((Kd.V_reads' HL105_1.out).2.2) 0 p162 q162; (try rw [← Nbq532.out] at hx162_0); cases e162; have qi162 : (0 < ((rd_T44 t102 x5_1).args).length) = True := eq_true (by omega); (try rw [show ((0 : Int)).toNat = 0 from rfl] at hx162_0); (try rw [show 0 * 3 = 0 from rfl] at hx162_0); (try rw [Addr.add_zero'] at hx162_0); (try rw [show ((0 : Int)).toNat = 0 from rfl] at hx162_1); (try rw [show 0 * 3 = 0 from rfl] at hx162_1); (try rw [Addr.add_zero'] at hx162_1); (try rw [show ((0 : Int)).toNat = 0 from rfl] at hx162_2); (try rw [show 0 * 3 = 0 from rfl] at hx162_2); (try rw [Addr.add_zero'] at hx162_2); replace p162 := eq_true p162; replace q162 := eq_true q162; have p163 : 0 ≤ (0 : Int) := (by omega); have q163 : 0 < (((rd_T44 t102 x5_1).args).length : Int) := dt_; obtain ⟨ad163, e163, hx163_0, hx163_1, hx163_2⟩ := at_T28 ((Kd.V_reads' HL105_1.out).2.2) 0 p163 q163; (try rw [← Nbq532.out] at hx163_0); obtain rfl : ad162 = ad163 := (by injection e163); have qi163 : (0 < ((rd_T44 t102 x5_1).args).length) = True := eq_true (by omega); (try rw [show ((0 : Int)).toNat = 0 from rfl] at hx163_0); (try rw [show 0 * 3 = 0 from rfl] at hx163_0); (try rw [Addr.add_zero'] at hx163_0); (try rw [show ((0 : Int)).toNat = 0 from rfl] at hx163_1); (try rw [show 0 * 3 = 0 from rfl] at hx163_1); (try rw [Addr.add_zero'] at hx163_1); (try rw [show ((0 : Int)).toNat = 0 from rfl] at hx163_2); (try rw [show 0 * 3 = 0 from rfl] at hx163_2); (try rw [Addr.add_zero'] at hx163_2); replace p163 := eq_true p163; replace q163 := eq_true q163; have p164 : 0 ≤ (0 : Int) := (by omega); have q164 : 0 < (((rd_T44 t102 x5_1).args).length : Int) := dt_; obtain ⟨ad164, e164, hx164_0, hx164_1, hx164_2⟩ := at_T28 ((Kd.V_reads' HL105_1.out).2.2) 0 p164 q164; (try rw [← Nbq532.out] at hx164_0); obtain rfl : ad162 = ad164 := (by injection e164); have qi164 : (0 < ((rd_T44 t102 x5_1).args).length) = True := eq_true (by omega); (try rw [show ((0 : Int)).toNat = 0 from rfl] at hx164_0); (try rw [show 0 * 3 = 0 from rfl] at hx164_0); (try rw [Addr.add_zero'] at hx164_0); (try rw [show ((0 : Int)).toNat = 0 from rfl] at hx164_1); (try rw [show 0 * 3 = 0 from rfl] at hx164_1); (try rw [Addr.add_zero'] at hx164_1); (try rw [show ((0 : Int)).toNat = 0 from rfl] at hx164_2); (try rw [show 0 * 3 = 0 from rfl] at hx164_2); (try rw [Addr.add_zero'] at hx164_2); replace p164 := eq_true p164; replace q164 := eq_true q164))
               go_roundg k1
               case measure => have := HK1.out; omega
               case rel => exact ⟨(wrap64 (x5_1 + 1)), rs_, H', ⟨by have := HK1.out; omega⟩, ⟨by (with_reducible repeat (first | apply Kd.N_alloc | apply Kd.N_drewN | apply Kd.N_drew)); exact Kd.N_mono HO_4.out (fun _ hk => trivial)⟩, ⟨pL HB.out⟩⟩
           ·rw [if_neg c531] at H
            exact absurd H (by simp)
          ·rw [if_neg c530] at H
           exact absurd H (by simp)
         ·rw [if_neg c529] at H
          exact absurd H (by simp)
     ·rw [if_neg c9] at H
      exact absurd H (by simp)
    ·rw [if_neg c8] at H
     have c8b0 : decide (x5_1 < (t102.length : Int)) = false := decide_eq_false c8
     clear c8
     by_cases c596 : t101 = true
     ·subst c596
      have H1 : (some (decide ((t102.length : Int) ≥ (l0.length : Int)))) = some r := by rw [if_pos rfl] at H; exact H
      clear H
      have H := H1
      clear H1
      obtain rfl := Option.some.inj H
      obtain ⟨Ao597, co597, eo597⟩ := Kd.N_slice HO_4.out
      subst eo597
      go_wp2
      go_ret
      exact ⟨by first | rfl | (simp [errW_none, errW_some] <;> rfl) | (simp [*, errW_none, errW_some] <;> rfl), pL HB.out⟩
     ·rw [if_neg c596] at H
      exact absurd H (by simp)
end Go.Proofs.Ytoekfmdcplphmaa.H
/- FactsSorted: facts are in order, each once, of the seven kinds, of one to three values, whose first one is a statement's number. Conditions: the statement's own. -/
namespace Go.Proofs.Ytoekfmdcplphmaa.H
open Go.RowKit Go.Proofs.YtoekfmdcplphmaaW.PrintWords
def kinds21 : List ByteArray := [(⟨#[100, 101, 102]⟩ : ByteArray), (⟨#[102, 108, 111, 119]⟩ : ByteArray), (⟨#[110, 101, 120, 116]⟩ : ByteArray), (⟨#[110, 111, 100, 101]⟩ : ByteArray), (⟨#[115, 105, 110, 107]⟩ : ByteArray), (⟨#[115, 111, 117, 114, 99, 101]⟩ : ByteArray), (⟨#[117, 115, 101]⟩ : ByteArray)]
def tail21 (s : List Stmt) (L : List Fact) (i : Int) (n : Int) (k : Nat) : Option Bool :=
  (lambrequinref09_In.f k kinds21 ((rd_T44 L i).pred)).bind fun t => (if t = true then (if (((rd_T44 L i).args).length : Int) = n then (if 0 < (((rd_T44 L i).args).length : Int) then (if (rd_T28 ((rd_T44 L i).args) 0).isSym = true then (none) else (if ((rd_T28 ((rd_T44 L i).args) 0).n) < 0 then (none) else (if ((rd_T28 ((rd_T44 L i).args) 0).n) ≥ (s.length : Int) then (none) else (lambrequinlaw21_FactsSorted.l0 k s true L (wrap64 (i + 1)))))) else (none)) else (none)) else (none))
def rest21 (s : List Stmt) (L : List Fact) (i : Int) (k : Nat) : Option Bool :=
  if ((rd_T44 L i).pred).toList = ([110, 111, 100, 101] : List UInt8) then (if ((rd_T44 L i).pred).toList = ([102, 108, 111, 119] : List UInt8) then tail21 s L i 3 k else tail21 s L i 1 k)
  else (if ((rd_T44 L i).pred).toList = ([102, 108, 111, 119] : List UInt8) then tail21 s L i 3 k else tail21 s L i 2 k)
section
variable (s : List Stmt) (L : List Fact) (i : Nat) (f : Fact) (hf : rd_T44 L i = f) (m : Int) (h0 : 0 ≤ m) (h1 : m < (s.length : Int)) (ih : Ev (fun k => lambrequinlaw21_FactsSorted.l0 k s true L (wrap64 ((i : Int) + 1))) true)
include hf h0 h1 ih
theorem tail_ev (n : Int) (r : List Val) (ha : f.args = numV m :: r) (hn : ((r.length : Int) + 1) = n) (hk : f.pred ∈ kinds21) : Ev (tail21 s L i n) true := by
  show Ev (fun k => tail21 s L i n k) true
  unfold tail21
  rw [hf, ha]
  refine Ev.bind (In_ev kinds21 f.pred (by decide)) ?_
  refine Ev.pos (mem_iff.2 hk) ?_
  refine Ev.pos (by simpa using hn) ?_
  refine Ev.pos (by simp) ?_
  refine Ev.neg (by simp [rd_T28]) ?_
  refine Ev.neg (by simp [rd_T28]; omega) ?_
  refine Ev.neg (by simp [rd_T28]; omega) ?_
  exact ih
theorem rest_ev (hm : f ∈ oneL s m) : Ev (rest21 s L i) true := by
  show Ev (fun k => rest21 s L i k) true
  unfold rest21
  rw [hf]
  rcases mem_oneL.1 hm with rfl | ⟨m', _, rfl⟩ | ⟨y, hy, rfl⟩ | ⟨k, y, hy, rfl⟩ | ⟨_, rfl⟩ | ⟨_, k, rfl⟩ | ⟨_, k, y, hy, rfl⟩
  · refine Ev.pos (by rw [ByteArray.toList_eq]) ?_
    refine Ev.neg (by rw [ByteArray.toList_eq]; simp) ?_
    exact tail_ev s L i _ hf m h0 h1 ih 1 [] rfl rfl (by simp [kinds21])
  · refine Ev.neg (by rw [ByteArray.toList_eq]; simp) ?_
    refine Ev.neg (by rw [ByteArray.toList_eq]; simp) ?_
    exact tail_ev s L i _ hf m h0 h1 ih 2 _ rfl rfl (by simp [kinds21])
  · refine Ev.neg (by rw [ByteArray.toList_eq]; simp) ?_
    refine Ev.neg (by rw [ByteArray.toList_eq]; simp) ?_
    exact tail_ev s L i _ hf m h0 h1 ih 2 _ rfl rfl (by simp [kinds21])
  · refine Ev.neg (by rw [ByteArray.toList_eq]; simp) ?_
    refine Ev.neg (by rw [ByteArray.toList_eq]; simp) ?_
    exact tail_ev s L i _ hf m h0 h1 ih 2 _ rfl rfl (by simp [kinds21])
  · refine Ev.neg (by rw [ByteArray.toList_eq]; simp) ?_
    refine Ev.neg (by rw [ByteArray.toList_eq]; simp) ?_
    exact tail_ev s L i _ hf m h0 h1 ih 2 _ rfl rfl (by simp [kinds21])
  · refine Ev.neg (by rw [ByteArray.toList_eq]; simp) ?_
    refine Ev.neg (by rw [ByteArray.toList_eq]; simp) ?_
    exact tail_ev s L i _ hf m h0 h1 ih 2 _ rfl rfl (by simp [kinds21])
  · refine Ev.neg (by rw [ByteArray.toList_eq]; simp) ?_
    refine Ev.pos (by rw [ByteArray.toList_eq]) ?_
    exact tail_ev s L i _ hf m h0 h1 ih 3 _ rfl rfl (by simp [kinds21])
end
theorem nodup_le {α : Type} [DecidableEq α] : ∀ {l l' : List α}, l.Nodup → (∀ x ∈ l, x ∈ l') → l.length ≤ l'.length
  | [], _, _, _ => by simp
  | a :: l, l', hn, h => by
    have h2 := List.nodup_cons.1 hn
    have ha : a ∈ l' := h a (by simp)
    have ih := nodup_le (l := l) (l' := l'.erase a) h2.2 fun x hx => (List.mem_erase_of_ne (fun e => by subst e; exact h2.1 hx)).2 (h x (by simp [hx]))
    rw [List.length_erase_of_mem ha] at ih
    have := List.length_pos_of_mem ha
    rw [List.length_cons]
    omega
theorem sorted_len (s : List Stmt) : s.length ≤ (ofF s).length := by
  have := nodup_le (l := (List.range s.length).map fun m : Nat => fNode (m : Int)) (l' := ofF s) ?_ ?_
  · simpa using this
  · refine List.Pairwise.map _ (fun a b (h : a ≠ b) e => ?_) List.nodup_range
    apply h
    have e' : (a : Int) = (b : Int) := by simpa using e
    omega
  · intro f hf
    obtain ⟨m, hm, rfl⟩ := List.mem_map.1 hf
    rw [mem_ofF, mem_node]
    have := List.mem_range.1 hm
    omega
theorem sorted_l0 (s : List Stmt) (hs : s.length ≤ 60) (hB : ∀ st ∈ s, bWStmt st) (hL : (ofF s).length ≤ 2000) : ∀ (d i : Nat), i + d = (ofF s).length → Ev (fun k => lambrequinlaw21_FactsSorted.l0 k s true (ofF s) i) true
  | 0, i, h => by
    refine Ev.step (fun k => by rw [lambrequinlaw21_FactsSorted.l0]) ?_
    refine Ev.neg (by omega) ?_
    refine Ev.pos rfl ?_
    have := sorted_len s
    exact Ev.some (by simp; omega)
  | d + 1, i, h => by
    have hi : i < (ofF s).length := by omega
    have ih := sorted_l0 s hs hB hL d (i + 1) (by omega)
    have hf : rd_T44 (ofF s) i = (ofF s)[i] := by
      show (ofF s).getD _ _ = _
      rw [Int.toNat_natCast, List.getD_eq_getElem?_getD, List.getElem?_eq_getElem hi]; rfl
    have hmem : (ofF s)[i] ∈ factsL s := mem_ofF.1 (List.getElem_mem hi)
    obtain ⟨m, h0, h1, hm⟩ := mem_factsL.1 hmem
    have hrest : Ev (fun k => rest21 s (ofF s) i k) true := rest_ev s (ofF s) i _ hf m h0 h1 (by rw [wrap_up (by omega)]; exact ih) hm
    refine Ev.step (fun k => by rw [lambrequinlaw21_FactsSorted.l0]) ?_
    refine Ev.pos (by omega) ?_
    refine Ev.pos (by omega) ?_
    by_cases hi0 : (i : Int) > 0
    · refine Ev.pos hi0 ?_
      have hw : wrap64 ((i : Int) - 1) = ((i - 1 : Nat) : Int) := by unfold wrap64; omega
      rw [hw]
      refine Ev.pos (by omega) ?_
      refine Ev.pos (by omega) ?_
      have hf' : rd_T44 (ofF s) ((i - 1 : Nat) : Int) = (ofF s)[i - 1] := by
        show (ofF s).getD _ _ = _
        rw [Int.toNat_natCast, List.getD_eq_getElem?_getD, List.getElem?_eq_getElem (by omega)]; rfl
      have hmem' : (ofF s)[i - 1] ∈ factsL s := mem_ofF.1 (List.getElem_mem _)
      have hlt : cmpF (ofF s)[i - 1] (ofF s)[i] < 0 := List.pairwise_iff_getElem.1 (ofF_strict s) (i - 1) i (by omega) hi (by omega)
      rw [hf']
      have hc : Ev (fun k => lambrequinref14_Compare.f k (ofF s)[i - 1].pred (ofF s)[i - 1].args (rd_T44 (ofF s) i).pred (rd_T44 (ofF s) i).args) (cmpF (ofF s)[i - 1] (ofF s)[i]) := by
        rw [hf]
        exact ref14_ev _ _ (ok_facts hB hmem') (ok_facts hB hmem)
      refine Ev.bind hc ?_
      refine Ev.pos (by have := ordF.rng (ofF s)[i - 1] (ofF s)[i]; omega) ?_
      exact hrest
    · refine Ev.neg hi0 ?_
      exact hrest
theorem FactsSorted_pure (s : List Stmt) (_hl : s.length * 96 ≤ 140737488351232) (hB : s.length * 96 ≤ 140737488351232 ∧ ∀ y ∈ s, bWStmt y) : ∃ k, lambrequinlaw21_FactsSorted.f k s = some true := by
  refine Ev.rounds ?_
  unfold lambrequinlaw21_FactsSorted.f
  refine Ev.bind shown21_ev ?_
  by_cases hs : (s.length : Int) > 60
  · exact Ev.pos hs (Ev.now _)
  · refine Ev.neg hs ?_
    refine Ev.bind (of_ev s (by omega)) ?_
    have hlm : (ofF s).length ≤ 2000 := by
      have h1 : (ofF s).length ≤ (factsL s).length := by unfold ofF; exact Nat.le_trans (dd_len _) (by rw [sortF_len]; exact Nat.le_refl _)
      have h2 : ∀ l : List Nat, (l.flatMap fun m : Nat => oneL s (m : Int)).length ≤ 20 * l.length := by
        intro l
        induction l with
        | nil => simp
        | cons a l ih => rw [List.flatMap_cons, List.length_append, List.length_cons]; have := oneL_len s (a : Int); omega
      have h3 := h2 (List.range s.length)
      rw [List.length_range] at h3
      unfold factsL at h1
      omega
    exact sorted_l0 s (by omega) hB.2 hlm (ofF s).length 0 (by omega)
theorem FactsSorted_walk (w : World) (x0 : (List Stmt)) (A0 : Option Addr) (c0 : Nat) (l0 : x0.length ≤ c0) (g0 : Kd.C k33 w A0 x0.length x0) (y0 : x0.length * 96 ≤ 140737488351232) (b0 : x0.length * 96 ≤ 140737488351232 ∧ ∀ y ∈ x0, bWStmt (y)) :
    Calls Try.prog 5 #[.slice A0 x0.length c0] w fun e w' => e = .returned (.bool true) ∧ Below w.heap.size w w' := by
  obtain ⟨k, h⟩ := FactsSorted_pure x0 y0 b0
  exact (lambrequinlaw21_FactsSorted.calls k A0 c0 x0 true w g0 l0 h).mono (fun e w' h' => ⟨h'.1, h'.2⟩)
end Go.Proofs.Ytoekfmdcplphmaa.H
namespace Go.Proofs.Ytoekfmdcplphmaa.factsSorted
open Go.ChangeShapes Go.WideShapes Go.ChangeAt Go.RowKit Go.Proofs.Ytoekfmdcplphmaa.H Go.Proofs.YtoekfmdcplphmaaW.PrintWords
open Go.ChangeMaps (open_string shut_string)
theorem own : ownKnob Try.prog.godebug = none := by kernel_rfl
theorem laidOut : laidOutB Try.prog = true := by kernel_rfl
set_option maxRecDepth 100000 in
theorem lifted (os : Os) (started : os.Started) (H : Type) (enc : TypeId × Value → H) :
    ReturnsInHanded {} Try.checked os 5 .any (Rows.factsSortedSpec.pre6 enc Try.prog Try.f5 Rows.factsSortedRow.domain false) (Rows.factsSortedSpec.post enc Try.prog Try.f5 false true false false) := by
  refine returnsInHanded_of_change_sized (C := Try.checked) own started (by kernel_rfl) Try.func5
    (ChangeSpec.witness6 (enc := enc) (C := Try.checked) false ⟨#[], #[.slice none 0 0], []⟩ 8 (by kernel_rfl) (by kernel_rfl) (by kernel_rfl) (by kernel_rfl)) ?_
  intro W base args ds gs before hval0 hW hcnd hsz0 _
  have hsz : (DataW.weightsEach Try.prog (Try.f5.params.toList ++ Rows.factsSortedSpec.plain.varTypes Try.prog) (ds ++ gs)).all (· ≤ reachBytes) = true := hsz0
  have hval : ∀ (j : Nat) t v, Try.f5.params[j]? = some t → args[j]? = some v → Value.okWide Try.prog W .any base t v := hval0
  have hW' := hW
  obtain ⟨p, q, hA0, hV, rfl, hfz, hnd⟩ := hW
  have hA : DataW.TrodAll enc Try.prog W 0 (fun _ => true) true Try.f5.params.toList args.toList ds p := hA0
  rw [Try.params5] at hA hval hsz
  obtain ⟨v0, vs0, d0, ds0, p0, q0, hargs, rfl, rfl, h0, r0⟩ := trodAll_cons hA
  obtain ⟨rfl, rfl, rfl⟩ := trodAll_nil r0
  obtain rfl : args = #[v0] := by cases args; simp_all
  obtain ⟨rfl, rfl⟩ := trodVars_none hV
  have k0 := h0
  have lt0 : ∀ x ∈ p0, x.block < W.heap.size := by obtain ⟨m, hm⟩ := k0; exact DataW.trod_lt m _ _ _ hm
  obtain ⟨a0, len0, cap0, rfl⟩ := okWide_slice Try.underlying22 (hval 0 22 v0 rfl rfl)
  have y0 := sized_row hsz (j := 0) (t := 22) rfl rfl Try.underlying22 (B := 96) (by kernel_rfl) h0
  obtain ⟨x0, ⟨A0, c0, e0, l0, g0⟩, b0⟩ := (opensW_slice Try.underlying22 (by kernel_rfl) opensW_Stmt 33 (by kernel_rfl)).argB hsz (j := 0) rfl rfl k0
  replace b0 : x0.length * 96 ≤ 140737488351232 ∧ ∀ y ∈ x0, bWStmt (y) := b0
  simp only [Value.cells, List.cons.injEq, and_true, Value.slice.injEq] at e0
  obtain ⟨rfl, rfl, rfl⟩ := e0
  clear hA0 hval0 hsz0 hsz
  refine (FactsSorted_walk W x0 a0 cap0 l0 g0 y0 b0).mono fun e W' ⟨he, bel⟩ => ?_
  subst he
  exact ⟨_, rfl, _, _, _, [], _, [], hW', trodAll_mk1 (shut_bool Try.underlying4 _), (trodAll_cons_mk (Below.trod laidOut (by kernel_rfl) (of_decide_eq_true (by kernel_rfl)) k0 bel lt0) trodAll_mk0), rfl, bel.frame _, fun h => by cases h⟩
theorem over : Rows.factsSortedRow.holds Try.pinned (OpenSpec.ofChange Rows.factsSortedSpec) :=
  OpenClaim.holds_of_wide 5 Try.f5 rfl rfl rfl rfl rfl rfl rfl ⟨rfl, rfl, rfl, rfl, rfl⟩ rfl rfl rfl rfl rfl (by kernel_rfl) Try.func5 (by kernel_rfl)
    (of_decide_eq_true (by kernel_rfl)) (by unfold Func.isWrapper; first | (rw [if_pos (by decide +kernel)]; kernel_rfl) | (rw [if_neg (by decide +kernel)]; exact ⟨rfl, rfl⟩))
    (fun os started H enc _ => lifted os started H enc)
theorem proved : Rows.FactsSortedSaid := over
end Go.Proofs.Ytoekfmdcplphmaa.factsSorted
namespace Go.Proofs.Ytoekfmdcplphmaa
theorem factsSorted_holds : Rows.FactsSortedSaid := factsSorted.proved
#print axioms factsSorted_holds
end Go.Proofs.Ytoekfmdcplphmaa

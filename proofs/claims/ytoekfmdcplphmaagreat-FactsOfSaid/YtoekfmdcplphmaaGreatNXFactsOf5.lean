/- RowFactsOf of the seat's law FactsOf: the law holds, under the statement's own conditions. -/
import Derived.Test.YtoekfmdcplphmaaGreatNXFactsOf
import Derived.Test.YtoekfmdcplphmaaGreatNXFactsOf2
import Derived.Test.YtoekfmdcplphmaaGreatNXFactsOf3
import Derived.Test.YtoekfmdcplphmaaGreatNXFactsOf4
import Derived.Test.YtoekfmdcplphmaaGreatRows
import Derived.Test.YtoekfmdcplphmaaGreatNW
import Derived.WalkKit
import Derived.ProofKit
import Derived.OpenShut
import Derived.ShutString
import Derived.ChangeOld
import Derived.Below
import Derived.SizedLaws
import Derived.Carry
set_option linter.unusedVariables false
set_option linter.unusedSimpArgs false
set_option linter.unusedSectionVars false
namespace Go.Proofs.YtoekfmdcplphmaaGreat.H
open Go.RowKit Go.Proofs.YtoekfmdcplphmaaGreatW.PrintWords Go.Proofs.YtoekfmdcplphmaaGreatW.PrintLast Go.Proofs.YtoekfmdcplphmaaGreatW.PrintMore
attribute [local go_sem] max2_int min2_int max_two min_two max_three min_three max_four min_four
def lambrequinlaw21_FactsOf.j0 : Nat → List (Stmt) → List (Fact) → Bool → Bool → ByteArray → List (Val) → Option (Bool)
 | 0, _, _, _, _, _, _ => none
 | k + 1, x0, x1, x7, x16, x102000, x102001 => if x16 = true then (some x7) else (if x7 = true then ((facts_Of.f k x0).bind fun t103 => ((lambrequinref21_Of.f k x0).bind fun t106 => ((lambrequinref14_Facts.f k t103 t106).bind fun t109 => (if t109 = true then ((facts_Has.f x1 x102000 x102001).bind fun t110 => ((lambrequinref14_Has.f k x1 x102000 x102001).bind fun t111 => (some (t110 == t111)))) else (none))))) else (none))
def lambrequinlaw21_FactsOf.f (k : Nat) (l0 : List (Stmt)) (l1 : List (Fact)) (a2_0 : ByteArray) (l2_1 : List (Val)) : Option (Bool) := (lambrequinlaw21_shown.f k).bind fun t102 => (if (l0.length : Int) > 60 then (lambrequinlaw21_FactsOf.j0 k l0 l1 t102 true a2_0 l2_1) else (lambrequinlaw21_FactsOf.j0 k l0 l1 t102 (decide ((l1.length : Int) > 200)) a2_0 l2_1))
theorem lambrequinlaw21_FactsOf.mono_l : ∀ k, (∀ y0 y1 y2 y3 y4 y5, LeO (lambrequinlaw21_FactsOf.j0 k y0 y1 y2 y3 y4 y5) (lambrequinlaw21_FactsOf.j0 (k + 1) y0 y1 y2 y3 y4 y5))
 | 0 => fun _ _ _ _ _ _ r h => by simp [lambrequinlaw21_FactsOf.j0] at h
 | k + 1 => by
  have ih0 := lambrequinlaw21_FactsOf.mono_l k
  intro y0 y1 y2 y3 y4 y5
  unfold lambrequinlaw21_FactsOf.j0
  repeat' first
  | (with_reducible exact ih0 _ _ _ _ _ _)
  | (with_reducible exact facts_Of.mono _ _)
  | (with_reducible exact lambrequinlaw21_shown.mono _)
  | (with_reducible exact lambrequinref14_Facts.mono _ _ _)
  | (with_reducible exact lambrequinref14_Has.mono _ _ _ _)
  | (with_reducible exact lambrequinref21_Of.mono _ _)
  | (with_reducible exact LeO.refl _)
  | (with_reducible exact LeO.none _)
  | (with_reducible refine LeO.ite ?_ ?_)
  | (with_reducible refine LeO.bind ?_ (fun _ => ?_))
  | exact ih0 _ _ _ _ _ _
  | exact facts_Of.mono _ _
  | exact lambrequinlaw21_shown.mono _
  | exact lambrequinref14_Facts.mono _ _ _
  | exact lambrequinref14_Has.mono _ _ _ _
  | exact lambrequinref21_Of.mono _ _
  | exact LeO.none _
  | refine LeO.ite ?_ ?_
  | refine LeO.bind ?_ (fun _ => ?_)
theorem lambrequinlaw21_FactsOf.mono : ∀ a0 a1 a2 a3 k, LeO (lambrequinlaw21_FactsOf.f k a0 a1 a2 a3) (lambrequinlaw21_FactsOf.f (k + 1) a0 a1 a2 a3) := by
 intro a0 a1 a2 a3 k
 have ih0 := lambrequinlaw21_FactsOf.mono_l k
 unfold lambrequinlaw21_FactsOf.f
 repeat' first
   | (with_reducible exact ih0 _ _ _ _ _ _)
   | (with_reducible exact facts_Of.mono _ _)
   | (with_reducible exact lambrequinlaw21_shown.mono _)
   | (with_reducible exact lambrequinref14_Facts.mono _ _ _)
   | (with_reducible exact lambrequinref14_Has.mono _ _ _ _)
   | (with_reducible exact lambrequinref21_Of.mono _ _)
   | (with_reducible exact LeO.refl _)
   | (with_reducible exact LeO.none _)
   | (with_reducible refine LeO.ite ?_ ?_)
   | (with_reducible refine LeO.bind ?_ (fun _ => ?_))
   | exact ih0 _ _ _ _ _ _
   | exact facts_Of.mono _ _
   | exact lambrequinlaw21_shown.mono _
   | exact lambrequinref14_Facts.mono _ _ _
   | exact lambrequinref14_Has.mono _ _ _ _
   | exact lambrequinref21_Of.mono _ _
   | exact LeO.none _
   | refine LeO.ite ?_ ?_
   | refine LeO.bind ?_ (fun _ => ?_)
def lambrequinlaw21_FactsOf.T4 : Bool × List (List Nat × List Nat) := (true, [([], []), ([0], [0]), ([1], [1]), ([2, 1, 1], [1, 2]), ([1], [1]), ([4, 3, 1], [1, 4]), ([3, 5, 5, 1], [1, 3, 5]), ([1, 6], [1, 6]), ([7, 6], [7]), ([8], [8]), ([8], [8]), ([10, 8], [8, 10]), ([8], [8]), ([12, 8], [8, 12]), ([9, 11, 13, 8, 8], [8, 9, 11, 13]), ([8], [8]), ([8], [8]), ([16, 8], [8, 16]), ([8], [8]), ([18, 8], [8, 18]), ([15, 17, 19, 14, 8], [8, 15, 17, 19]), ([14, 20, 8], [8, 14, 20]), ([8, 21], [8, 21]), ([22, 20, 0, 1, 2, 3, 4, 5, 6, 7, 8, 9, 10, 11, 12, 13, 14, 15, 16, 17, 18, 19, 20, 21, 22], [22])])
def lambrequinlaw21_FactsOf.B4 : List Nat := [0, 1, 3, 7, 3, 31, 63, 127, 255, 511, 511, 1535, 511, 4607, 16383, 511, 511, 66047, 511, 262655, 1048575, 2097151, 4194303, 8388607]
theorem lambrequinlaw21_FactsOf.tab4 : rtab .any (opsOf Tryz.f3 4) = lambrequinlaw21_FactsOf.T4 := by kernel_rfl
theorem lambrequinlaw21_FactsOf.bits4 : waitsOk lambrequinlaw21_FactsOf.T4.2 lambrequinlaw21_FactsOf.B4 = true := by kernel_rfl
set_option maxHeartbeats 8000000 in
set_option maxRecDepth 100000 in
theorem lambrequinlaw21_FactsOf.calls (k : Nat) (A0 : Option Addr) (c0 : Nat) (l0 : List (Stmt)) (A1 : Option Addr) (c1 : Nat) (l1 : List (Fact)) (a2_0 : ByteArray) (A2_1 : Option Addr) (c2_1 : Nat) (l2_1 : List (Val)) (r : Bool) (w : World) (hr0 : Kd.C k34 w A0 l0.length l0) (hc0 : l0.length ≤ c0) (hr1 : Kd.C k26 w A1 l1.length l1) (hc1 : l1.length ≤ c1) (hr2_1 : Kd.C k36 w A2_1 l2_1.length l2_1) (hc2_1 : l2_1.length ≤ c2_1) (h : lambrequinlaw21_FactsOf.f k l0 l1 a2_0 l2_1 = some r) :
  Calls Tryz.prog 3 #[.slice A0 l0.length c0, .slice A1 l1.length c1, .agg #[.string a2_0, .slice A2_1 l2_1.length c2_1]] w fun e w' => e = .returned (.bool r) ∧ Below w.heap.size w w' := by
 have hu26 := Tryz.underlying26
 have HR0 := am hr0
 have HC0 := am hc0
 clear hr0 hc0
 have HR1 := am hr1
 have HC1 := am hc1
 clear hr1 hc1
 have HR2_1 := am hr2_1
 have HC2_1 := am hc2_1
 clear hr2_1 hc2_1
 have HB := am (Below.refl w.heap.size w)
 have H : ((lambrequinlaw21_shown.f k).bind fun t102 => (if (l0.length : Int) > 60 then (lambrequinlaw21_FactsOf.j0 k l0 l1 t102 true a2_0 l2_1) else (lambrequinlaw21_FactsOf.j0 k l0 l1 t102 (decide ((l1.length : Int) > 200)) a2_0 l2_1))) = some r := h
 clear h
 replace H := Option.bind_eq_some_iff.mp H
 obtain ⟨t102, A40, H⟩ := H
 replace H : (if (l0.length : Int) > 60 then (lambrequinlaw21_FactsOf.j0 k l0 l1 t102 true a2_0 l2_1) else (lambrequinlaw21_FactsOf.j0 k l0 l1 t102 (decide ((l1.length : Int) > 200)) a2_0 l2_1)) = some r := H
 have A4 := am A40
 clear A40
 have HC5 := am H
 clear H
 go_enter Tryz.func3, Tryz.ntmps3
 go_upto_region 2 with (first | ((with_reducible refine gate_dst (N := 5) rfl ?_); (try (refine gate_guard (by rfl) ?_; dsimp only)); refine box_event ?hg (N := 5) ?hd (cs := #[.string a2_0, .slice A2_1 l2_1.length c2_1]) (t := 26) ?hr ?_; (case hd => rfl); (case hg => rfl); (case hr => first | (go_simp; done) | (go_simp; rfl)); intro gb101 hg w6 hbox hb; have BK101 := am (hbox); have GW101 := am (gw_ hg HB.out); have GE101 := GW101; replace HB := am (bs_ HB.out hb); clear hb hbox hg) | ((with_reducible refine gate_callee (f := 4) rfl ?_); refine goesL_ (some 8) rfl rfl Tryz.func4 (by kernel_rfl) rfl #[] rfl gl_ ?_; (with_reducible refine (lambrequinlaw21_shown.calls k  t102 _ A4.out).mono ?_); rintro e w7 ⟨rfl, hb⟩; refine ⟨_, rfl, ?_⟩; replace BK101 := am (bb_ BK101.out hb); replace HB := am (bs_ HB.out hb); (try clear hb); (try clear hb2); (try clear hk); (try clear hi)))
 (try simp only [Act.put, List.setIfInBounds_toArray, List.set_cons_zero, List.set_cons_succ])
 go_cut [16] (fun v16 wc => ∃ (kq : Nat) (x16_4 : Bool), v16 = .bool x16_4 ∧ Aside0 (lambrequinlaw21_FactsOf.j0 kq l0 l1 t102 x16_4 a2_0 l2_1 = some r) ∧ Aside0 (kq ≤ k) ∧ Aside0 (wc.heap[gb101]? = some (.cells #[.string a2_0, (.slice A2_1 l2_1.length c2_1)] 26 (0, 0))) ∧ Aside0 (Below w.heap.size w wc))
 case first =>
  have H := HC5.out
  clear HC5
  by_cases c8 : (l0.length : Int) > 60
  ·rw [if_pos c8] at H
   have c8b0 : decide (60 < (l0.length : Int)) = true := decide_eq_true c8
   have c8b1 : decide (60 < l0.length) = true := decide_eq_true (by omega)
   clear c8
   (first | rw [c8b0] | (simp only [i64_w, i32_w]; rw [c8b0]) | skip)
   have H' := am H
   clear H
   go_wp2
   go_meet
   case rel => exact ⟨_, (true), rs_, H', ⟨by first | omega | exact Nat.le_refl _⟩, ⟨pB BK101.out⟩, ⟨pL HB.out⟩⟩
  rw [if_neg c8] at H
  have c8b0 : decide (60 < (l0.length : Int)) = false := decide_eq_false c8
  have c8b1 : decide (60 < l0.length) = false := decide_eq_false (by omega)
  clear c8
  (first | rw [c8b0] | (simp only [i64_w, i32_w]; rw [c8b0]) | skip)
  have H' := am H
  clear H
  go_wp2
  go_meet
  case rel => exact ⟨_, (decide ((l1.length : Int) > 200)), rs_, H', ⟨by first | omega | exact Nat.le_refl _⟩, ⟨pB BK101.out⟩, ⟨pL HB.out⟩⟩
 case rest =>
  clear HC5
  try clear c1
  try clear c2
  try clear p2
  try clear c3
  try clear c4
  try clear c8
  try clear c8b0
  try clear c8b1
  obtain ⟨kq, x16_4, rfl, HA, HJ4, BK101, HB⟩ := hcut
  cases kq with
  | zero => exact absurd HA.out (by simp [lambrequinlaw21_FactsOf.j0])
  | succ kj4 =>
   have H := HA.out
   clear HA
   simp only [lambrequinlaw21_FactsOf.j0] at H
   by_cases c9 : x16_4 = true
   ·subst c9
    have H1 : (some t102) = some r := by rw [if_pos rfl] at H; exact H
    clear H
    have H := H1
    clear H1
    obtain rfl := Option.some.inj H
    go_wp2
    go_ret
    exact ⟨er_, pL HB.out⟩
   replace c9 := Bool.eq_false_iff.mpr c9
   subst c9
   have H1 : (if t102 = true then ((facts_Of.f kj4 l0).bind fun t103 => ((lambrequinref21_Of.f kj4 l0).bind fun t106 => ((lambrequinref14_Facts.f kj4 t103 t106).bind fun t109 => (if t109 = true then ((facts_Has.f l1 a2_0 l2_1).bind fun t110 => ((lambrequinref14_Has.f kj4 l1 a2_0 l2_1).bind fun t111 => (some (t110 == t111)))) else (none))))) else (none)) = some r := by rw [if_neg (show ¬ (false = true) by decide)] at H; exact H
   clear H
   have H := H1
   clear H1
   by_cases c10 : t102 = true
   rotate_left
   ·rw [if_neg c10] at H
    exact absurd H (by simp)
   subst c10
   have H1 : ((facts_Of.f kj4 l0).bind fun t103 => ((lambrequinref21_Of.f kj4 l0).bind fun t106 => ((lambrequinref14_Facts.f kj4 t103 t106).bind fun t109 => (if t109 = true then ((facts_Has.f l1 a2_0 l2_1).bind fun t110 => ((lambrequinref14_Has.f kj4 l1 a2_0 l2_1).bind fun t111 => (some (t110 == t111)))) else (none))))) = some r := by rw [if_pos rfl] at H; exact H
   clear H
   have H := H1
   clear H1
   replace H := Option.bind_eq_some_iff.mp H
   obtain ⟨t103, A110, H⟩ := H
   replace H : ((lambrequinref21_Of.f kj4 l0).bind fun t106 => ((lambrequinref14_Facts.f kj4 t103 t106).bind fun t109 => (if t109 = true then ((facts_Has.f l1 a2_0 l2_1).bind fun t110 => ((lambrequinref14_Has.f kj4 l1 a2_0 l2_1).bind fun t111 => (some (t110 == t111)))) else (none)))) = some r := H
   have A11 := am A110
   clear A110
   replace H := Option.bind_eq_some_iff.mp H
   obtain ⟨t106, A120, H⟩ := H
   replace H : ((lambrequinref14_Facts.f kj4 t103 t106).bind fun t109 => (if t109 = true then ((facts_Has.f l1 a2_0 l2_1).bind fun t110 => ((lambrequinref14_Has.f kj4 l1 a2_0 l2_1).bind fun t111 => (some (t110 == t111)))) else (none))) = some r := H
   have A12 := am A120
   clear A120
   replace H := Option.bind_eq_some_iff.mp H
   obtain ⟨t109, A130, H⟩ := H
   replace H : (if t109 = true then ((facts_Has.f l1 a2_0 l2_1).bind fun t110 => ((lambrequinref14_Has.f kj4 l1 a2_0 l2_1).bind fun t111 => (some (t110 == t111)))) else (none)) = some r := H
   have A13 := am A130
   clear A130
   by_cases c14 : t109 = true
   rotate_left
   ·rw [if_neg c14] at H
    exact absurd H (by simp)
   subst c14
   have H1 : ((facts_Has.f l1 a2_0 l2_1).bind fun t110 => ((lambrequinref14_Has.f kj4 l1 a2_0 l2_1).bind fun t111 => (some (t110 == t111)))) = some r := by rw [if_pos rfl] at H; exact H
   clear H
   have H := H1
   clear H1
   replace H := Option.bind_eq_some_iff.mp H
   obtain ⟨t110, A150, H⟩ := H
   replace H : ((lambrequinref14_Has.f kj4 l1 a2_0 l2_1).bind fun t111 => (some (t110 == t111))) = some r := H
   have A15 := am A150
   clear A150
   replace H := Option.bind_eq_some_iff.mp H
   obtain ⟨t111, A160, H⟩ := H
   replace H : (some (t110 == t111)) = some r := H
   have A16 := am A160
   clear A160
   obtain rfl := Option.some.inj H
   try go_wp2
   replace BK101 := am (blk_drew BK101.out)
   replace HB := am (below_drew1 HB.out)
   refine start_ (n := 24) (S := fun w' => w'.cell? ⟨gb101, 0, none⟩ = some (.string a2_0) ∧ w'.cell? ⟨gb101, 1, none⟩ = some (.slice A2_1 l2_1.length c2_1)) (ds := []) (bl 24 0) (by kernel_rfl) rfl rfl ⟨(blk_cell BK101.out 0).trans rfl, (blk_cell BK101.out 1).trans rfl⟩ (fun hHeld => ?_); refine with_tabW lambrequinlaw21_FactsOf.tab4 lambrequinlaw21_FactsOf.bits4 (fun HT_ HW_ => ?_)
   generalize wc.drew = w17 at BK101 HB hHeld ⊢
   refine pu_ (i := 0) (N := some 18) (bl 24 1) rfl rfl (any_of HT_.out (by kernel_rfl)) ?_
   refine pu_ (i := 1) (N := some 19) (bl 24 3) rfl rfl (any_of HT_.out (by kernel_rfl)) ?_
   refine pu_ (i := 2) (N := some 20) (bl 24 7) rfl rfl (any_of HT_.out (by kernel_rfl)) ?_
   refine pu_ (i := 4) (N := some 22) (bl 24 23) rfl rfl (any_of HT_.out (by kernel_rfl)) ?_
   refine one_ (i := 3) (N := some 21) (bl 24 31) rfl rfl (one_of HT_.out (by kernel_rfl)) (by decide) (fun K hK => ?_)
   refine goes_ Tryz.func6 (by kernel_rfl) rfl #[.slice A0 l0.length c0] (by rfl) rfl rfl gl_ ?_
   with_reducible refine (facts_Of.calls kj4 _ _ l0 t103 _ ?side1 ?side2 A11.out).mono ?_
   (case side1 => repeat (first | exact (Kd.C_below HR0.out HB.out) | (with_reducible refine Kd.C_alloc ?_ _) | (with_reducible refine Kd.C_drewN ?_ _) | (with_reducible refine Kd.C_drew ?_)))
   (case side2 => exact HC0.out)
   rintro e w18 ⟨v104, rfl, ho0, hb⟩
   refine ⟨_, rfl, ?_⟩
   have HO105 := am (Kd.N_lower (Kd.N_mono (ok' := fun k_ => k_ ≠ gb101) ho0 (fun k_ hk_ => (Kd.freshB (g := gb101) (pB BK101.out) k_ hk_))) (below_size (pL HB.out)))
   replace BK101 := am (bb_ BK101.out hb)
   replace HB := am (bs_ HB.out hb)
   (try clear hb)
   (try clear hb2)
   (try clear hk)
   (try clear hi)
   (try clear ho0)
   refine hK.out _ _ ⟨(blk_cell BK101.out 0).trans rfl, (blk_cell BK101.out 1).trans rfl⟩ (fun hHeld => ?_)
   clear hK K
   refine norm_ (a' := ?_) ?_ ?_
   rotate_left
   ·show Act.put _ (some 21) _ = _
    simp only [Act.put, sA, sZ, sS, i64_w, i32_w]
    rfl
   refine one_ (i := 5) (N := some 23) (bl 24 63) rfl rfl (one_of HT_.out (by kernel_rfl)) (by decide) (fun K hK => ?_)
   refine goes_ Tryz.func7 (by kernel_rfl) rfl #[.slice A0 l0.length c0] (by rfl) rfl rfl gl_ ?_
   with_reducible refine (lambrequinref21_Of.calls kj4 _ _ l0 t106 _ ?side1 ?side2 A12.out).mono ?_
   (case side1 => repeat (first | exact (Kd.C_below HR0.out HB.out) | (with_reducible refine Kd.C_alloc ?_ _) | (with_reducible refine Kd.C_drewN ?_ _) | (with_reducible refine Kd.C_drew ?_)))
   (case side2 => exact HC0.out)
   rintro e w19 ⟨v107, rfl, ho0, hb⟩
   refine ⟨_, rfl, ?_⟩
   have HO108 := am (Kd.N_lower (Kd.N_mono (ok' := fun k_ => some k_ ≠ (v104 : Value).ownBlock ∧ k_ ≠ gb101) ho0 (fun k_ hk_ => ⟨(Kd.fresh' (Kd.N_lt (by (with_reducible repeat (first | apply Kd.N_alloc | apply Kd.N_drewN | apply Kd.N_drew)); exact HO105.out)) k_ hk_), (Kd.freshB (g := gb101) (pB BK101.out) k_ hk_)⟩)) (below_size (pL HB.out)))
   replace HO105 := am (Kd.N_elder' (by (with_reducible repeat (first | apply Kd.N_alloc | apply Kd.N_drewN | apply Kd.N_drew)); exact HO105.out) (Kd.N_base ho0) hb)
   replace BK101 := am (bb_ BK101.out hb)
   replace HB := am (bs_ HB.out hb)
   (try clear hb)
   (try clear hb2)
   (try clear hk)
   (try clear hi)
   (try clear ho0)
   obtain ⟨Ao20, co20, eo20⟩ := Kd.N_slice HO105.out
   (first | subst eo20 | (injection eo20 with f1_ f2_ f3_; have f4_ := f1_.symm; have f5_ := f3_.symm; clear f1_ f2_ f3_; subst f4_; subst f5_))
   obtain ⟨Ao21, co21, eo21⟩ := Kd.N_slice HO108.out
   (first | subst eo21 | (injection eo21 with f1_ f2_ f3_; have f4_ := f1_.symm; have f5_ := f3_.symm; clear f1_ f2_ f3_; subst f4_; subst f5_))
   refine hK.out _ _ ⟨(blk_cell BK101.out 0).trans rfl, (blk_cell BK101.out 1).trans rfl⟩ (fun hHeld => ?_)
   clear hK K
   refine norm_ (a' := ?_) ?_ ?_
   rotate_left
   ·show Act.put _ (some 23) _ = _
    simp only [Act.put, sA, sZ, sS, i64_w, i32_w]
    rfl
   refine one_ (i := 6) (N := some 24) (bl 24 127) rfl rfl (one_of HT_.out (by kernel_rfl)) (by decide) (fun K hK => ?_)
   refine goes_ Tryz.func5 (by kernel_rfl) rfl #[.slice Ao20 t103.length co20, .slice Ao21 t106.length co21] (by rfl) rfl rfl gl_ ?_
   with_reducible refine (lambrequinref14_Facts.calls kj4 _ _ t103 _ _ t106 true _ ?side1 ?side2 ?side3 ?side4 A13.out).mono ?_
   (case side1 => repeat (first | exact (Kd.N_reads' HO105.out).2.2 | (with_reducible refine Kd.C_alloc ?_ _) | (with_reducible refine Kd.C_drewN ?_ _) | (with_reducible refine Kd.C_drew ?_)))
   (case side2 => exact (Kd.N_reads' HO105.out).2.1)
   (case side3 => repeat (first | exact (Kd.N_reads' HO108.out).2.2 | (with_reducible refine Kd.C_alloc ?_ _) | (with_reducible refine Kd.C_drewN ?_ _) | (with_reducible refine Kd.C_drew ?_)))
   (case side4 => exact (Kd.N_reads' HO108.out).2.1)
   rintro e w' ⟨rfl, ⟨nd, rfl⟩⟩
   refine ⟨_, rfl, ?_⟩
   refine hK.out _ _ ⟨(blk_cell BK101.out 0).trans rfl, (blk_cell BK101.out 1).trans rfl⟩ (fun hHeld => ?_)
   clear hK K
   refine norm_ (a' := ?_) ?_ ?_
   rotate_left
   ·show Act.put _ (some 24) _ = _
    simp only [Act.put, sA, sZ, sS, i64_w, i32_w]
    rfl
   refine pu_ (i := 7) (N := some 25) (bl 24 255) rfl rfl (any_of HT_.out (by kernel_rfl)) ?_
   refine pu_ (i := 8) (N := some 26) (bl 24 511) rfl rfl (any_of HT_.out (by kernel_rfl)) ?_
   refine pu_ (i := 9) (N := some 27) (bl 24 1023) rfl rfl (any_of HT_.out (by kernel_rfl)) ?_
   refine pu_ (i := 10) (N := some 28) (bl 24 2047) rfl rfl (any_of HT_.out (by kernel_rfl)) ?_
   refine pu_ (i := 12) (N := some 30) (bl 24 6143) rfl rfl (any_of HT_.out (by kernel_rfl)) ?_
   refine pu_ (i := 15) (N := some 33) (bl 24 38911) rfl rfl (any_of HT_.out (by kernel_rfl)) ?_
   refine pu_ (i := 16) (N := some 34) (bl 24 104447) rfl rfl (any_of HT_.out (by kernel_rfl)) ?_
   refine pu_ (i := 18) (N := some 36) (bl 24 366591) rfl rfl (any_of HT_.out (by kernel_rfl)) ?_
   refine take_ (i := 11) (N := some 29) (v := ?_) (a' := ?_) (bl 24 368639) rfl rfl (take_ofW HT_.out HW_.out (by kernel_rfl)) (fun _ _ _ h => h) (Or.inl ⟨by rfl, ?_⟩) hHeld ?_ ?_
   rotate_left
   ·rintro w' ⟨s0, s1⟩
    go_simp
    with_reducible rfl
   rotate_left
   ·simp only [Act.put, sA, sZ, sS, i64_w, i32_w]
    rfl
   refine take_ (i := 13) (N := some 31) (v := ?_) (a' := ?_) (bl 24 376831) rfl rfl (take_ofW HT_.out HW_.out (by kernel_rfl)) (fun _ _ _ h => h) (Or.inl ⟨by rfl, ?_⟩) hHeld ?_ ?_
   rotate_left
   ·rintro w' ⟨s0, s1⟩
    go_simp
    with_reducible rfl
   rotate_left
   ·simp only [Act.put, sA, sZ, sS, i64_w, i32_w]
    rfl
   refine take_ (i := 17) (N := some 35) (v := ?_) (a' := ?_) (bl 24 507903) rfl rfl (take_ofW HT_.out HW_.out (by kernel_rfl)) (fun _ _ _ h => h) (Or.inl ⟨by rfl, ?_⟩) hHeld ?_ ?_
   rotate_left
   ·rintro w' ⟨s0, s1⟩
    go_simp
    with_reducible rfl
   rotate_left
   ·simp only [Act.put, sA, sZ, sS, i64_w, i32_w]
    rfl
   refine take_ (i := 19) (N := some 37) (v := ?_) (a' := ?_) (bl 24 1032191) rfl rfl (take_ofW HT_.out HW_.out (by kernel_rfl)) (fun _ _ _ h => h) (Or.inl ⟨by rfl, ?_⟩) hHeld ?_ ?_
   rotate_left
   ·rintro w' ⟨s0, s1⟩
    go_simp
    with_reducible rfl
   rotate_left
   ·simp only [Act.put, sA, sZ, sS, i64_w, i32_w]
    rfl
   refine one_ (i := 14) (N := some 32) (bl 24 1048575) rfl rfl (one_of HT_.out (by kernel_rfl)) (by decide) (fun K hK => ?_)
   refine goes_ Tryz.func8 (by kernel_rfl) rfl #[.slice A1 l1.length c1, .string a2_0, .slice A2_1 l2_1.length c2_1] (by rfl) rfl rfl gl_ ?_
   with_reducible refine (facts_Has.calls _ _ l1 a2_0 _ _ l2_1 t110 _ ?side1 ?side2 ?side3 ?side4 A15.out).mono ?_
   (case side1 => repeat (first | exact (Kd.C_below HR1.out (pL HB.out)) | (with_reducible refine Kd.C_alloc ?_ _) | (with_reducible refine Kd.C_drewN ?_ _) | (with_reducible refine Kd.C_drew ?_)))
   (case side2 => exact HC1.out)
   (case side3 => repeat (first | exact (Kd.C_below HR2_1.out (pL HB.out)) | (with_reducible refine Kd.C_alloc ?_ _) | (with_reducible refine Kd.C_drewN ?_ _) | (with_reducible refine Kd.C_drew ?_)))
   (case side4 => exact HC2_1.out)
   rintro e w22 ⟨rfl, hb⟩
   refine ⟨_, rfl, ?_⟩
   replace HO105 := am (Kd.N_below (by (with_reducible repeat (first | apply Kd.N_alloc | apply Kd.N_drewN | apply Kd.N_drew)); exact HO105.out) hb)
   replace HO108 := am (Kd.N_below (by (with_reducible repeat (first | apply Kd.N_alloc | apply Kd.N_drewN | apply Kd.N_drew)); exact HO108.out) hb)
   replace BK101 := am (bb_ BK101.out hb)
   replace HB := am (bs_ HB.out hb)
   (try clear hb)
   (try clear hb2)
   (try clear hk)
   (try clear hi)
   refine hK.out _ _ ⟨(blk_cell BK101.out 0).trans rfl, (blk_cell BK101.out 1).trans rfl⟩ (fun hHeld => ?_)
   clear hK K
   refine norm_ (a' := ?_) ?_ ?_
   rotate_left
   ·show Act.put _ (some 32) _ = _
    simp only [Act.put, sA, sZ, sS, i64_w, i32_w]
    rfl
   refine one_ (i := 20) (N := some 38) (bl 24 2097151) rfl rfl (one_of HT_.out (by kernel_rfl)) (by decide) (fun K hK => ?_)
   refine goes_ Tryz.func9 (by kernel_rfl) rfl #[.slice A1 l1.length c1, .string a2_0, .slice A2_1 l2_1.length c2_1] (by rfl) rfl rfl gl_ ?_
   with_reducible refine (lambrequinref14_Has.calls kj4 _ _ l1 a2_0 _ _ l2_1 t111 _ ?side1 ?side2 ?side3 ?side4 A16.out).mono ?_
   (case side1 => repeat (first | exact (Kd.C_below HR1.out HB.out) | (with_reducible refine Kd.C_alloc ?_ _) | (with_reducible refine Kd.C_drewN ?_ _) | (with_reducible refine Kd.C_drew ?_)))
   (case side2 => exact HC1.out)
   (case side3 => repeat (first | exact (Kd.C_below HR2_1.out HB.out) | (with_reducible refine Kd.C_alloc ?_ _) | (with_reducible refine Kd.C_drewN ?_ _) | (with_reducible refine Kd.C_drew ?_)))
   (case side4 => exact HC2_1.out)
   rintro e w23 ⟨rfl, hb⟩
   refine ⟨_, rfl, ?_⟩
   replace HO105 := am (Kd.N_below (by (with_reducible repeat (first | apply Kd.N_alloc | apply Kd.N_drewN | apply Kd.N_drew)); exact HO105.out) hb)
   replace HO108 := am (Kd.N_below (by (with_reducible repeat (first | apply Kd.N_alloc | apply Kd.N_drewN | apply Kd.N_drew)); exact HO108.out) hb)
   replace BK101 := am (bb_ BK101.out hb)
   replace HB := am (bs_ HB.out hb)
   (try clear hb)
   (try clear hb2)
   (try clear hk)
   (try clear hi)
   refine hK.out _ _ ⟨(blk_cell BK101.out 0).trans rfl, (blk_cell BK101.out 1).trans rfl⟩ (fun hHeld => ?_)
   clear hK K
   refine norm_ (a' := ?_) ?_ ?_
   rotate_left
   ·show Act.put _ (some 38) _ = _
    simp only [Act.put, sA, sZ, sS, i64_w, i32_w]
    rfl
   refine pu_ (i := 21) (N := some 39) (bl 24 4194303) rfl rfl (any_of HT_.out (by kernel_rfl)) ?_
   refine pu_ (i := 22) (N := some 40) (bl 24 8388607) rfl rfl (any_of HT_.out (by kernel_rfl)) ?_
   refine pu_ (i := 23) (N := some 6) (bl 24 16777215) rfl rfl (any_of HT_.out (by kernel_rfl)) ?_
   refine done_ (done_of HT_.out (by kernel_rfl)) ?_
   try go_wp2
   go_ret
   exact ⟨er_, pL HB.out⟩
end Go.Proofs.YtoekfmdcplphmaaGreat.H
/- FactsOf: any flow's facts, and whether any fact is among any ones, are the document's. Conditions: the statement's own. -/
namespace Go.Proofs.YtoekfmdcplphmaaGreat.H
open Go.RowKit Go.Proofs.YtoekfmdcplphmaaGreatW.PrintWords
theorem ok_bW {f : Fact} (h : bWFact f) : okF f := by
  have h1 : f.pred.size ≤ 140737488351232 := h.1
  have h2 := h.2.1
  refine ⟨by omega, by omega, fun v hv => ?_⟩
  have h3 : v.sym.size ≤ 140737488351232 := (h.2.2 v hv).2.1
  unfold okV
  omega
theorem FactsOf_pure (s : List Stmt) (_hl : s.length * 96 ≤ 140737488351232) (hB : s.length * 96 ≤ 140737488351232 ∧ ∀ y ∈ s, bWStmt y) (all : List Fact) (_hl2 : all.length * 40 ≤ 140737488351232) (hB2 : all.length * 40 ≤ 140737488351232 ∧ ∀ y ∈ all, bWFact y) (x : Fact) (_n : x.args.length ≤ 9223372036854775807) (hx : bWFact x) :
    ∃ k, lambrequinlaw21_FactsOf.f k s all x.pred x.args = some true := by
  refine Ev.rounds (g := fun k => lambrequinlaw21_FactsOf.f k s all x.pred x.args) ?_
  unfold lambrequinlaw21_FactsOf.f
  refine Ev.bind shown21_ev ?_
  have out : Ev (fun k => lambrequinlaw21_FactsOf.j0 k s all true true x.pred x.args) true := Ev.step (fun k => by rw [lambrequinlaw21_FactsOf.j0]) (Ev.pos rfl (Ev.now _))
  by_cases hs : (s.length : Int) > 60
  · exact Ev.pos hs out
  · refine Ev.neg hs ?_
    by_cases ha : (all.length : Int) > 200
    · rw [decide_eq_true ha]
      exact out
    · rw [decide_eq_false ha]
      refine Ev.step (fun k => by rw [lambrequinlaw21_FactsOf.j0]) ?_
      refine Ev.neg (by simp) (Ev.pos rfl ?_)
      refine Ev.bind (of_ev s (by omega)) (Ev.bind (r21_ev s (by omega) hB.2) ?_)
      have hlm : (ofF s).length ≤ 2000 := by
        have h1 : (ofF s).length ≤ (factsL s).length := by unfold ofF; exact Nat.le_trans (dd_len _) (by rw [sortF_len]; exact Nat.le_refl _)
        have h2 : ∀ l : List Nat, (l.flatMap fun m : Nat => oneL s (m : Int)).length ≤ 20 * l.length := by
          intro l
          induction l with
          | nil => simp
          | cons a l ih => rw [List.flatMap_cons, List.length_append, List.length_cons]; have := oneL_len s (a : Int); omega
        have h3 := h2 (List.range s.length)
        rw [List.length_range] at h3
        unfold factsL at h1
        omega
      refine Ev.bind (rFacts_ev (ofF s) (by omega) fun f hf => ok_facts hB.2 (mem_ofF.1 hf)) (Ev.pos rfl ?_)
      refine Ev.pure (Has_eq all x.pred x.args) ?_
      refine Ev.bind (rHas_ev all x (by omega) (fun f hf => ok_bW (hB2.2 f hf)) (ok_bW hx)) ?_
      exact Ev.some (by simp)
theorem FactsOf_walk (w : World) (x0 : (List Stmt)) (A0 : Option Addr) (c0 : Nat) (l0 : x0.length ≤ c0) (g0 : Kd.C k34 w A0 x0.length x0) (y0 : x0.length * 96 ≤ 140737488351232) (b0 : x0.length * 96 ≤ 140737488351232 ∧ ∀ y ∈ x0, bWStmt (y)) (x1 : (List Fact)) (A1 : Option Addr) (c1 : Nat) (l1 : x1.length ≤ c1) (g1 : Kd.C k26 w A1 x1.length x1) (y1 : x1.length * 40 ≤ 140737488351232) (b1 : x1.length * 40 ≤ 140737488351232 ∧ ∀ y ∈ x1, bWFact (y)) (x2 : Fact) (A2_1 : Option Addr) (c2_1 : Nat) (l2_1 : x2.args.length ≤ c2_1) (g2_1 : Kd.C k36 w A2_1 x2.args.length x2.args) (b2 : bWFact x2) :
    Calls Tryz.prog 3 #[.slice A0 x0.length c0, .slice A1 x1.length c1, .agg #[.string x2.pred, .slice A2_1 x2.args.length c2_1]] w fun e w' => e = .returned (.bool true) ∧ Below w.heap.size w w' := by
  obtain ⟨k, h⟩ := FactsOf_pure x0 y0 b0 x1 y1 b1 x2 g2_1.2.1 b2
  exact (lambrequinlaw21_FactsOf.calls k A0 c0 x0 A1 c1 x1 x2.pred A2_1 c2_1 x2.args true w g0 l0 g1 l1 g2_1 l2_1 h).mono (fun e w' h' => ⟨h'.1, h'.2⟩)
end Go.Proofs.YtoekfmdcplphmaaGreat.H
namespace Go.Proofs.YtoekfmdcplphmaaGreat.factsOf
open Go.ChangeShapes Go.WideShapes Go.ChangeAt Go.RowKit Go.Proofs.YtoekfmdcplphmaaGreat.H Go.Proofs.YtoekfmdcplphmaaGreatW.PrintWords
open Go.ChangeMaps (open_string shut_string)
theorem own : ownKnob Tryz.prog.godebug = none := by kernel_rfl
theorem laidOut : laidOutB Tryz.prog = true := by kernel_rfl
set_option maxRecDepth 100000 in
theorem lifted (os : Os) (started : os.Started) (H : Type) (enc : TypeId × Value → H) :
    ReturnsInHanded {} Tryz.checked os 3 .any (Rows.factsOfSpec.pre6 enc Tryz.prog Tryz.f3 Rows.factsOfRow.domain false) (Rows.factsOfSpec.post enc Tryz.prog Tryz.f3 false true false false) := by
  refine returnsInHanded_of_change_sized (C := Tryz.checked) own started (by kernel_rfl) Tryz.func3
    (ChangeSpec.witness6 (enc := enc) (C := Tryz.checked) false ⟨#[], #[.slice none 0 0, .slice none 0 0, .agg #[.string ⟨#[]⟩, .slice none 0 0]], []⟩ 8 (by kernel_rfl) (by kernel_rfl) (by kernel_rfl) (by kernel_rfl)) ?_
  intro W base args ds gs before hval0 hW hcnd hsz0 _
  have hsz : (DataW.weightsEach Tryz.prog (Tryz.f3.params.toList ++ Rows.factsOfSpec.plain.varTypes Tryz.prog) (ds ++ gs)).all (· ≤ reachBytes) = true := hsz0
  have hval : ∀ (j : Nat) t v, Tryz.f3.params[j]? = some t → args[j]? = some v → Value.okWide Tryz.prog W .any base t v := hval0
  have hW' := hW
  obtain ⟨p, q, hA0, hV, rfl, hfz, hnd⟩ := hW
  have hA : DataW.TrodAll enc Tryz.prog W 0 (fun _ => true) true Tryz.f3.params.toList args.toList ds p := hA0
  rw [Tryz.params3] at hA hval hsz
  obtain ⟨v0, vs0, d0, ds0, p0, q0, hargs, rfl, rfl, h0, r0⟩ := trodAll_cons hA
  obtain ⟨v1, vs1, d1, ds1, p1, q1, rfl, rfl, rfl, h1, r1⟩ := trodAll_cons r0
  obtain ⟨v2, vs2, d2, ds2, p2, q2, rfl, rfl, rfl, h2, r2⟩ := trodAll_cons r1
  obtain ⟨rfl, rfl, rfl⟩ := trodAll_nil r2
  obtain rfl : args = #[v0, v1, v2] := by cases args; simp_all
  obtain ⟨rfl, rfl⟩ := trodVars_none hV
  have k0 := h0
  have lt0 : ∀ x ∈ p0, x.block < W.heap.size := by obtain ⟨m, hm⟩ := k0; exact DataW.trod_lt m _ _ _ hm
  obtain ⟨a0, len0, cap0, rfl⟩ := okWide_slice Tryz.underlying22 (hval 0 22 v0 rfl rfl)
  have y0 := sized_row hsz (j := 0) (t := 22) rfl rfl Tryz.underlying22 (B := 96) (by kernel_rfl) h0
  obtain ⟨x0, ⟨A0, c0, e0, l0, g0⟩, b0⟩ := (opensW_slice Tryz.underlying22 (by kernel_rfl) opensW_Stmt 34 (by kernel_rfl)).argB hsz (j := 0) rfl rfl k0
  replace b0 : x0.length * 96 ≤ 140737488351232 ∧ ∀ y ∈ x0, bWStmt (y) := b0
  simp only [Value.cells, List.cons.injEq, and_true, Value.slice.injEq] at e0
  obtain ⟨rfl, rfl, rfl⟩ := e0
  have k1 := h1
  have lt1 : ∀ x ∈ p1, x.block < W.heap.size := by obtain ⟨m, hm⟩ := k1; exact DataW.trod_lt m _ _ _ hm
  obtain ⟨a1, len1, cap1, rfl⟩ := okWide_slice Tryz.underlying23 (hval 1 23 v1 rfl rfl)
  have y1 := sized_row hsz (j := 1) (t := 23) rfl rfl Tryz.underlying23 (B := 40) (by kernel_rfl) h1
  obtain ⟨x1, ⟨A1, c1, e1, l1, g1⟩, b1⟩ := (opensW_slice Tryz.underlying23 (by kernel_rfl) opensW_Fact 26 (by kernel_rfl)).argB hsz (j := 1) rfl rfl k1
  replace b1 : x1.length * 40 ≤ 140737488351232 ∧ ∀ y ∈ x1, bWFact (y) := b1
  simp only [Value.cells, List.cons.injEq, and_true, Value.slice.injEq] at e1
  obtain ⟨rfl, rfl, rfl⟩ := e1
  have k2 := h2
  have lt2 : ∀ x ∈ p2, x.block < W.heap.size := by obtain ⟨m, hm⟩ := k2; exact DataW.trod_lt m _ _ _ hm
  obtain ⟨cs2, rfl, -⟩ := okWide_struct Tryz.underlying26 (hval 2 26 v2 rfl rfl)
  obtain ⟨x2, g2, b2⟩ := opensW_Fact.argB hsz (j := 2) rfl rfl k2
  obtain ⟨A2_1, c2_1, e2, l2_1, g2_1⟩ := k26_open g2
  obtain ⟨cl2⟩ := cs2
  obtain rfl : cl2 = _ := e2
  clear hA0 hval0 hsz0 hsz
  refine (FactsOf_walk W x0 a0 cap0 l0 g0 y0 b0 x1 a1 cap1 l1 g1 y1 b1 x2 A2_1 c2_1 l2_1 g2_1 b2).mono fun e W' ⟨he, bel⟩ => ?_
  subst he
  exact ⟨_, rfl, _, _, _, [], _, [], hW', trodAll_mk1 (shut_bool Tryz.underlying4 _), (trodAll_cons_mk (Below.trod laidOut (by kernel_rfl) (of_decide_eq_true (by kernel_rfl)) k0 bel lt0) (trodAll_cons_mk (Below.trod laidOut (by kernel_rfl) (of_decide_eq_true (by kernel_rfl)) k1 bel lt1) (trodAll_cons_mk (Below.trod laidOut (by kernel_rfl) (of_decide_eq_true (by kernel_rfl)) k2 bel lt2) trodAll_mk0))), rfl, bel.frame _, fun h => by cases h⟩
theorem over : Rows.factsOfRow.holds Tryz.pinned (OpenSpec.ofChange Rows.factsOfSpec) :=
  OpenClaim.holds_of_wide 3 Tryz.f3 rfl rfl rfl rfl rfl rfl rfl ⟨rfl, rfl, rfl, rfl, rfl⟩ rfl rfl rfl rfl rfl (by kernel_rfl) Tryz.func3 (by kernel_rfl)
    (of_decide_eq_true (by kernel_rfl)) (by unfold Func.isWrapper; first | (rw [if_pos (by decide +kernel)]; kernel_rfl) | (rw [if_neg (by decide +kernel)]; exact ⟨rfl, rfl⟩))
    (fun os started H enc _ => lifted os started H enc)
theorem proved : Rows.FactsOfSaid := over
end Go.Proofs.YtoekfmdcplphmaaGreat.factsOf
namespace Go.Proofs.YtoekfmdcplphmaaGreat
theorem factsOf_holds : Rows.FactsOfSaid := factsOf.proved
#print axioms factsOf_holds
end Go.Proofs.YtoekfmdcplphmaaGreat

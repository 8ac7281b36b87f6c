/- RowFactsOf of the seat's law FactsOf: the law holds, under the statement's own conditions. -/
import Derived.Test.YtoekfmdcplphmaaGreatNXFactsOf
import Derived.Test.YtoekfmdcplphmaaGreatNXFactsOf2
import Derived.OpenShut
import Derived.SizedLaws
import Derived.DataReads
set_option linter.unusedVariables false
set_option linter.unusedSimpArgs false
set_option linter.unusedSectionVars false
namespace Go.Proofs.YtoekfmdcplphmaaGreat.H
open Go.RowKit Go.Proofs.YtoekfmdcplphmaaGreatW.PrintWords Go.Proofs.YtoekfmdcplphmaaGreatW.PrintLast Go.Proofs.YtoekfmdcplphmaaGreatW.PrintMore
attribute [local go_sem] max2_int min2_int max_two min_two max_three min_three max_four min_four
mutual
def lambrequinref03_Compare.l0 : Nat → List (Val) → List (Val) → Int → Option (Int)
 | 0, _, _, _ => none
 | k + 1, x0, x1, x5 => if x5 < (x0.length : Int) then (lambrequinref03_Compare.j1 k x0 x1 x5 (decide (x5 < (x1.length : Int)))) else (lambrequinref03_Compare.j1 k x0 x1 x5 false)
def lambrequinref03_Compare.j1 : Nat → List (Val) → List (Val) → Int → Bool → Option (Int)
 | 0, _, _, _, _ => none
 | k + 1, x0, x1, x5, x15 => if x15 = true then (if 0 ≤ x5 then (if x5 < (x0.length : Int) then (if x5 < (x1.length : Int) then ((lambrequinref01_Same.f k ((rd_T36 x0 x5).isSym) ((rd_T36 x0 x5).sym) ((rd_T36 x0 x5).n) ((rd_T36 x1 x5).isSym) ((rd_T36 x1 x5).sym) ((rd_T36 x1 x5).n)).bind fun t103 => (if t103 = true then (lambrequinref03_Compare.l0 k x0 x1 (wrap64 (x5 + 1))) else ((lambrequinref01_Compare.f k ((rd_T36 x0 x5).isSym) ((rd_T36 x0 x5).sym) ((rd_T36 x0 x5).n) ((rd_T36 x1 x5).isSym) ((rd_T36 x1 x5).sym) ((rd_T36 x1 x5).n)).bind fun t106 => (some t106)))) else (none)) else (none)) else (none)) else (if (x0.length : Int) < (x1.length : Int) then (some (-1)) else (if (x0.length : Int) > (x1.length : Int) then (some 1) else (some 0)))
end
def lambrequinref03_Compare.f (k : Nat) (l0 : List (Val)) (l1 : List (Val)) : Option (Int) := lambrequinref03_Compare.l0 k l0 l1 0
theorem lambrequinref03_Compare.mono_l : ∀ k, (∀ y0 y1 y2, LeO (lambrequinref03_Compare.l0 k y0 y1 y2) (lambrequinref03_Compare.l0 (k + 1) y0 y1 y2)) ∧ (∀ y0 y1 y2 y3, LeO (lambrequinref03_Compare.j1 k y0 y1 y2 y3) (lambrequinref03_Compare.j1 (k + 1) y0 y1 y2 y3))
 | 0 => ⟨fun _ _ _ r h => by simp [lambrequinref03_Compare.l0] at h, fun _ _ _ _ r h => by simp [lambrequinref03_Compare.j1] at h⟩
 | k + 1 => by
  obtain ⟨ih0, ih1⟩ := lambrequinref03_Compare.mono_l k
  refine ⟨?_, ?_⟩
  ·intro y0 y1 y2
   unfold lambrequinref03_Compare.l0
   repeat' first
   | (with_reducible exact ih0 _ _ _)
   | (with_reducible exact ih1 _ _ _ _)
   | (with_reducible exact lambrequinref01_Compare.mono _ _ _ _ _ _ _)
   | (with_reducible exact lambrequinref01_Same.mono _ _ _ _ _ _ _)
   | (with_reducible exact LeO.refl _)
   | (with_reducible exact LeO.none _)
   | (with_reducible refine LeO.ite ?_ ?_)
   | (with_reducible refine LeO.bind ?_ (fun _ => ?_))
   | exact ih0 _ _ _
   | exact ih1 _ _ _ _
   | exact lambrequinref01_Compare.mono _ _ _ _ _ _ _
   | exact lambrequinref01_Same.mono _ _ _ _ _ _ _
   | exact LeO.none _
   | refine LeO.ite ?_ ?_
   | refine LeO.bind ?_ (fun _ => ?_)
  intro y0 y1 y2 y3
  unfold lambrequinref03_Compare.j1
  repeat' first
  | (with_reducible exact ih0 _ _ _)
  | (with_reducible exact ih1 _ _ _ _)
  | (with_reducible exact lambrequinref01_Compare.mono _ _ _ _ _ _ _)
  | (with_reducible exact lambrequinref01_Same.mono _ _ _ _ _ _ _)
  | (with_reducible exact LeO.refl _)
  | (with_reducible exact LeO.none _)
  | (with_reducible refine LeO.ite ?_ ?_)
  | (with_reducible refine LeO.bind ?_ (fun _ => ?_))
  | exact ih0 _ _ _
  | exact ih1 _ _ _ _
  | exact lambrequinref01_Compare.mono _ _ _ _ _ _ _
  | exact lambrequinref01_Same.mono _ _ _ _ _ _ _
  | exact LeO.none _
  | refine LeO.ite ?_ ?_
  | refine LeO.bind ?_ (fun _ => ?_)
theorem lambrequinref03_Compare.mono : ∀ a0 a1 k, LeO (lambrequinref03_Compare.f k a0 a1) (lambrequinref03_Compare.f (k + 1) a0 a1) := by
 intro a0 a1 k
 obtain ⟨ih0, ih1⟩ := lambrequinref03_Compare.mono_l k
 unfold lambrequinref03_Compare.f
 repeat' first
   | (with_reducible exact ih0 _ _ _)
   | (with_reducible exact ih1 _ _ _ _)
   | (with_reducible exact lambrequinref01_Compare.mono _ _ _ _ _ _ _)
   | (with_reducible exact lambrequinref01_Same.mono _ _ _ _ _ _ _)
   | (with_reducible exact LeO.refl _)
   | (with_reducible exact LeO.none _)
   | (with_reducible refine LeO.ite ?_ ?_)
   | (with_reducible refine LeO.bind ?_ (fun _ => ?_))
   | exact ih0 _ _ _
   | exact ih1 _ _ _ _
   | exact lambrequinref01_Compare.mono _ _ _ _ _ _ _
   | exact lambrequinref01_Same.mono _ _ _ _ _ _ _
   | exact LeO.none _
   | refine LeO.ite ?_ ?_
   | refine LeO.bind ?_ (fun _ => ?_)
def lambrequinref03_Compare.T4 : Bool × List (List Nat × List Nat) := (true, [([], []), ([], []), ([0, 1], [0, 1]), ([2], [2]), ([], []), ([], []), ([4, 5], [4, 5]), ([6], [6]), ([3, 7], [3, 7]), ([8], [8])])
def lambrequinref03_Compare.B4 : List Nat := [0, 0, 3, 7, 0, 0, 48, 112, 255, 511]
theorem lambrequinref03_Compare.tab4 : rtab .any (opsOf Tryz.f26 4) = lambrequinref03_Compare.T4 := by kernel_rfl
theorem lambrequinref03_Compare.bits4 : waitsOk lambrequinref03_Compare.T4.2 lambrequinref03_Compare.B4 = true := by kernel_rfl
def lambrequinref03_Compare.T5 : Bool × List (List Nat × List Nat) := (true, [([], []), ([], []), ([0, 1], [0, 1]), ([2], [2]), ([], []), ([], []), ([4, 5], [4, 5]), ([6], [6]), ([3, 7], [3, 7]), ([8, 8, 0, 1, 2, 3, 4, 5, 6, 7, 8], [8])])
def lambrequinref03_Compare.B5 : List Nat := [0, 0, 3, 7, 0, 0, 48, 112, 255, 511]
theorem lambrequinref03_Compare.tab5 : rtab .any (opsOf Tryz.f26 5) = lambrequinref03_Compare.T5 := by kernel_rfl
theorem lambrequinref03_Compare.bits5 : waitsOk lambrequinref03_Compare.T5.2 lambrequinref03_Compare.B5 = true := by kernel_rfl
set_option maxHeartbeats 8000000 in
set_option maxRecDepth 100000 in
theorem lambrequinref03_Compare.calls (k : Nat) (A0 : Option Addr) (c0 : Nat) (l0 : List (Val)) (A1 : Option Addr) (c1 : Nat) (l1 : List (Val)) (r : Int) (w : World) (hr0 : Kd.C k36 w A0 l0.length l0) (hc0 : l0.length ≤ c0) (hr1 : Kd.C k36 w A1 l1.length l1) (hc1 : l1.length ≤ c1) (h : lambrequinref03_Compare.f k l0 l1 = some r) :
  Calls Tryz.prog 26 #[.slice A0 l0.length c0, .slice A1 l1.length c1] w fun e w' => e = .returned (.int .i64 r) ∧ Below w.heap.size w w' := by
 have hu36 := Tryz.underlying36
 have HR0 := am hr0
 have HC0 := am hc0
 clear hr0 hc0
 have HR1 := am hr1
 have HC1 := am hc1
 clear hr1 hc1
 have HB := am (Below.refl w.heap.size w)
 have H : (lambrequinref03_Compare.l0 k l0 l1 0) = some r := h
 clear h
 have H' := am H
 clear H
 go_enter Tryz.func26, Tryz.ntmps26
 go_wp2
 go_loopg [5] k (fun kq v5 w' => ∃ (x5_1 : Int), v5 = .int .i64 x5_1 ∧ Aside0 (lambrequinref03_Compare.l0 kq l0 l1 x5_1 = some r) ∧ Aside0 (kq ≤ k) ∧ Aside0 (Below w.heap.size w w'))
 case atStart => exact ⟨(0), rs_, H', ⟨Nat.le_refl _⟩, ⟨pL HB.out⟩⟩
 case round =>
  clear H'
  try clear c1
  try clear c2
  try clear p2
  obtain ⟨x5_1, rfl, HA, HK1, HB⟩ := hrel
  cases gk with
  | zero => exact absurd HA.out (by simp [lambrequinref03_Compare.l0])
  | succ k1 =>
   have H := HA.out
   clear HA
   simp only [lambrequinref03_Compare.l0] at H
   have HC3 := am H
   clear H
   go_upto_region 2 with (fail)
   go_cut [15] (fun v15 wc => ∃ (kq : Nat) (x15_2 : Bool), v15 = .bool x15_2 ∧ Aside0 (lambrequinref03_Compare.j1 kq l0 l1 x5_1 x15_2 = some r) ∧ Aside0 (kq ≤ k1) ∧ Aside0 (Below w.heap.size w wc))
   case first =>
    have H := HC3.out
    clear HC3
    by_cases c4 : x5_1 < (l0.length : Int)
    ·rw [if_pos c4] at H
     have c4b0 : decide (x5_1 < (l0.length : Int)) = true := decide_eq_true c4
     clear c4
     (first | rw [c4b0] | (simp only [i64_w, i32_w]; rw [c4b0]) | skip)
     have H' := am H
     clear H
     go_wp2
     go_meet
     case rel => exact ⟨_, (decide (x5_1 < (l1.length : Int))), rs_, H', ⟨by have := HK1.out; first | omega | exact Nat.le_refl _⟩, ⟨pL HB.out⟩⟩
    rw [if_neg c4] at H
    have c4b0 : decide (x5_1 < (l0.length : Int)) = false := decide_eq_false c4
    clear c4
    (first | rw [c4b0] | (simp only [i64_w, i32_w]; rw [c4b0]) | skip)
    have H' := am H
    clear H
    go_wp2
    go_meet
    case rel => exact ⟨_, (false), rs_, H', ⟨by have := HK1.out; first | omega | exact Nat.le_refl _⟩, ⟨pL HB.out⟩⟩
   case rest =>
    clear HC3
    try clear c1
    try clear c2
    try clear p2
    try clear c4
    try clear c4b0
    try clear p2
    obtain ⟨kq, x15_2, rfl, HA, HJ2, HB⟩ := hcut
    cases kq with
    | zero => exact absurd HA.out (by simp [lambrequinref03_Compare.j1])
    | succ kj2 =>
     have H := HA.out
     clear HA
     simp only [lambrequinref03_Compare.j1] at H
     by_cases c5 : x15_2 = true
     rotate_left
     ·replace c5 := Bool.eq_false_iff.mpr c5
      subst c5
      have H1 : (if (l0.length : Int) < (l1.length : Int) then (some (-1)) else (if (l0.length : Int) > (l1.length : Int) then (some 1) else (some 0))) = some r := by rw [if_neg (show ¬ (false = true) by decide)] at H; exact H
      clear H
      have H := H1
      clear H1
      by_cases c18 : (l0.length : Int) < (l1.length : Int)
      ·rw [if_pos c18] at H
       have c18b0 : decide ((l0.length : Int) < (l1.length : Int)) = true := decide_eq_true c18
       have c18b1 : decide (l0.length < l1.length) = true := decide_eq_true (Int.ofNat_lt.mp c18)
       clear c18
       obtain rfl := Option.some.inj H
       go_wp2
       go_ret
       exact ⟨er_, pL HB.out⟩
      rw [if_neg c18] at H
      have c18b0 : decide ((l0.length : Int) < (l1.length : Int)) = false := decide_eq_false c18
      have c18b1 : decide (l0.length < l1.length) = false := decide_eq_false (fun h => c18 (Int.ofNat_lt.mpr h))
      clear c18
      by_cases c19 : (l0.length : Int) > (l1.length : Int)
      ·rw [if_pos c19] at H
       have c19b0 : decide ((l1.length : Int) < (l0.length : Int)) = true := decide_eq_true c19
       have c19b1 : decide (l1.length < l0.length) = true := decide_eq_true (Int.ofNat_lt.mp c19)
       clear c19
       obtain rfl := Option.some.inj H
       go_wp2
       go_ret
       exact ⟨er_, pL HB.out⟩
      rw [if_neg c19] at H
      have c19b0 : decide ((l1.length : Int) < (l0.length : Int)) = false := decide_eq_false c19
      have c19b1 : decide (l1.length < l0.length) = false := decide_eq_false (fun h => c19 (Int.ofNat_lt.mpr h))
      clear c19
      obtain rfl := Option.some.inj H
      go_wp2
      go_ret
      exact ⟨er_, pL HB.out⟩
     subst c5
     have H1 : (if 0 ≤ x5_1 then (if x5_1 < (l0.length : Int) then (if x5_1 < (l1.length : Int) then ((lambrequinref01_Same.f kj2 ((rd_T36 l0 x5_1).isSym) ((rd_T36 l0 x5_1).sym) ((rd_T36 l0 x5_1).n) ((rd_T36 l1 x5_1).isSym) ((rd_T36 l1 x5_1).sym) ((rd_T36 l1 x5_1).n)).bind fun t103 => (if t103 = true then (lambrequinref03_Compare.l0 kj2 l0 l1 (wrap64 (x5_1 + 1))) else ((lambrequinref01_Compare.f kj2 ((rd_T36 l0 x5_1).isSym) ((rd_T36 l0 x5_1).sym) ((rd_T36 l0 x5_1).n) ((rd_T36 l1 x5_1).isSym) ((rd_T36 l1 x5_1).sym) ((rd_T36 l1 x5_1).n)).bind fun t106 => (some t106)))) else (none)) else (none)) else (none)) = some r := by rw [if_pos rfl] at H; exact H
     clear H
     have H := H1
     clear H1
     by_cases c6 : 0 ≤ x5_1
     rotate_left
     ·rw [if_neg c6] at H
      exact absurd H (by simp)
     rw [if_pos c6] at H
     have c6b0 : decide (0 ≤ x5_1) = true := decide_eq_true c6
     clear c6
     by_cases c7 : x5_1 < (l0.length : Int)
     rotate_left
     ·rw [if_neg c7] at H
      exact absurd H (by simp)
     rw [if_pos c7] at H
     have c7b0 : decide (x5_1 < (l0.length : Int)) = true := decide_eq_true c7
     clear c7
     by_cases c8 : x5_1 < (l1.length : Int)
     rotate_left
     ·rw [if_neg c8] at H
      exact absurd H (by simp)
     rw [if_pos c8] at H
     have c8b0 : decide (x5_1 < (l1.length : Int)) = true := decide_eq_true c8
     clear c8
     replace H := Option.bind_eq_some_iff.mp H
     obtain ⟨t103, A90, H⟩ := H
     replace H : (if t103 = true then (lambrequinref03_Compare.l0 kj2 l0 l1 (wrap64 (x5_1 + 1))) else ((lambrequinref01_Compare.f kj2 ((rd_T36 l0 x5_1).isSym) ((rd_T36 l0 x5_1).sym) ((rd_T36 l0 x5_1).n) ((rd_T36 l1 x5_1).isSym) ((rd_T36 l1 x5_1).sym) ((rd_T36 l1 x5_1).n)).bind fun t106 => (some t106))) = some r := H
     have A9 := am A90
     clear A90
     by_cases c10 : t103 = true
     ·subst c10
      have H1 : (lambrequinref03_Compare.l0 kj2 l0 l1 (wrap64 (x5_1 + 1))) = some r := by rw [if_pos rfl] at H; exact H
      clear H
      have H := H1
      clear H1
      have H' := am H
      clear H
      try go_wp2
      replace HB := am (below_drew1 HB.out)
      have p101 : 0 ≤ (x5_1 : Int) := dt_
      have q101 : x5_1 < (l0.length : Int) := dt_
      obtain ⟨ad101, e101, hx101_0, hx101_1, hx101_2⟩ := at_T36 HR0.out x5_1 p101 q101
      have hw101_2 := hx101_2
      have hw101_1 := hx101_1
      have hw101_0 := hx101_0
      cases e101
      replace hx101_0 := up_ HB.out hx101_0
      replace hx101_1 := up_ HB.out hx101_1
      replace hx101_2 := up_ HB.out hx101_2
      replace p101 := eq_true p101
      replace q101 := eq_true q101
      have p102 : 0 ≤ (x5_1 : Int) := dt_
      have q102 : x5_1 < (l1.length : Int) := dt_
      obtain ⟨ad102, e102, hx102_0, hx102_1, hx102_2⟩ := at_T36 HR1.out x5_1 p102 q102
      have hw102_2 := hx102_2
      have hw102_1 := hx102_1
      have hw102_0 := hx102_0
      cases e102
      replace hx102_0 := up_ HB.out hx102_0
      replace hx102_1 := up_ HB.out hx102_1
      replace hx102_2 := up_ HB.out hx102_2
      replace p102 := eq_true p102
      replace q102 := eq_true q102
      refine start_ (n := 10) (S := fun w' => w'.cell? (ad101.add ((x5_1).toNat * 3)) = some (.bool ((rd_T36 l0 x5_1).isSym)) ∧ w'.cell? ⟨(ad101.add ((x5_1).toNat * 3)).block, (ad101.add ((x5_1).toNat * 3)).off + 1, none⟩ = some (.string ((rd_T36 l0 x5_1).sym)) ∧ w'.cell? ⟨(ad101.add ((x5_1).toNat * 3)).block, (ad101.add ((x5_1).toNat * 3)).off + 2, none⟩ = some (.int .i64 ((rd_T36 l0 x5_1).n)) ∧ w'.cell? (ad102.add ((x5_1).toNat * 3)) = some (.bool ((rd_T36 l1 x5_1).isSym)) ∧ w'.cell? ⟨(ad102.add ((x5_1).toNat * 3)).block, (ad102.add ((x5_1).toNat * 3)).off + 1, none⟩ = some (.string ((rd_T36 l1 x5_1).sym)) ∧ w'.cell? ⟨(ad102.add ((x5_1).toNat * 3)).block, (ad102.add ((x5_1).toNat * 3)).off + 2, none⟩ = some (.int .i64 ((rd_T36 l1 x5_1).n))) (ds := []) (bl 10 0) (by kernel_rfl) rfl rfl ⟨(up_ HB.out hw101_0), (up_ HB.out hw101_1), (up_ HB.out hw101_2), (up_ HB.out hw102_0), (up_ HB.out hw102_1), (up_ HB.out hw102_2)⟩ (fun hHeld => ?_); refine with_tabW lambrequinref03_Compare.tab4 lambrequinref03_Compare.bits4 (fun HT_ HW_ => ?_)
      generalize wc.drew = w11 at HB hx101_0 hx101_1 hx101_2 hx102_0 hx102_1 hx102_2 hHeld ⊢
      refine pu_ (i := 0) (N := some 18) (bl 10 1) rfl rfl (any_of HT_.out (by kernel_rfl)) ?_
      refine pu_ (i := 1) (N := some 19) (bl 10 3) rfl rfl (any_of HT_.out (by kernel_rfl)) ?_
      refine pu_ (i := 2) (N := some 20) (bl 10 7) rfl rfl (any_of HT_.out (by kernel_rfl)) ?_
      refine pu_ (i := 4) (N := some 22) (bl 10 23) rfl rfl (any_of HT_.out (by kernel_rfl)) ?_
      refine pu_ (i := 5) (N := some 23) (bl 10 55) rfl rfl (any_of HT_.out (by kernel_rfl)) ?_
      refine pu_ (i := 6) (N := some 24) (bl 10 119) rfl rfl (any_of HT_.out (by kernel_rfl)) ?_
      refine take_ (i := 3) (N := some 21) (v := ?_) (a' := ?_) (bl 10 127) rfl rfl (take_ofW HT_.out HW_.out (by kernel_rfl)) (fun _ _ _ h => h) (Or.inl ⟨by rfl, ?_⟩) hHeld ?_ ?_
      rotate_left
      ·rintro w' ⟨s0, s1, s2, s3, s4, s5⟩
       go_simp
       with_reducible rfl
      rotate_left
      ·simp only [Act.put, sA, sZ, sS, i64_w, i32_w]
       rfl
      refine take_ (i := 7) (N := some 25) (v := ?_) (a' := ?_) (bl 10 255) rfl rfl (take_ofW HT_.out HW_.out (by kernel_rfl)) (fun _ _ _ h => h) (Or.inl ⟨by rfl, ?_⟩) hHeld ?_ ?_
      rotate_left
      ·rintro w' ⟨s0, s1, s2, s3, s4, s5⟩
       go_simp
       with_reducible rfl
      rotate_left
      ·simp only [Act.put, sA, sZ, sS, i64_w, i32_w]
       rfl
      refine one_ (i := 8) (N := some 26) (bl 10 511) rfl rfl (one_of HT_.out (by kernel_rfl)) (by decide) (fun K hK => ?_)
      refine goes_ Tryz.func43 (by kernel_rfl) rfl #[.agg #[.bool ((rd_T36 l0 x5_1).isSym), .string ((rd_T36 l0 x5_1).sym), .int .i64 ((rd_T36 l0 x5_1).n)], .agg #[.bool ((rd_T36 l1 x5_1).isSym), .string ((rd_T36 l1 x5_1).sym), .int .i64 ((rd_T36 l1 x5_1).n)]] (by rfl) rfl rfl gl_ ?_
      with_reducible refine (lambrequinref01_Same.calls kj2 ((rd_T36 l0 x5_1).isSym) ((rd_T36 l0 x5_1).sym) ((rd_T36 l0 x5_1).n) ((rd_T36 l1 x5_1).isSym) ((rd_T36 l1 x5_1).sym) ((rd_T36 l1 x5_1).n) true _ A9.out).mono ?_
      rintro e w12 ⟨rfl, hb⟩
      refine ⟨_, rfl, ?_⟩
      replace HB := am (bs_ HB.out hb)
      (try clear hb)
      (try clear hb2)
      (try clear hk)
      (try clear hi)
      refine hK.out _ _ ⟨(up_ HB.out hw101_0), (up_ HB.out hw101_1), (up_ HB.out hw101_2), (up_ HB.out hw102_0), (up_ HB.out hw102_1), (up_ HB.out hw102_2)⟩ (fun hHeld => ?_)
      clear hK K
      refine norm_ (a' := ?_) ?_ ?_
      rotate_left
      ·show Act.put _ (some 26) _ = _
       simp only [Act.put, sA, sZ, sS, i64_w, i32_w]
       rfl
      refine pu_ (i := 9) (N := some 27) (bl 10 1023) rfl rfl (any_of HT_.out (by kernel_rfl)) ?_
      refine done_ (done_of HT_.out (by kernel_rfl)) ?_
      try go_wp2
      go_roundg kj2
      case measure => have := HK1.out; have := HJ2.out; omega
      case rel => exact ⟨(wrap64 (x5_1 + 1)), rs_, H', ⟨by have := HK1.out; have := HJ2.out; omega⟩, ⟨pL HB.out⟩⟩
     replace c10 := Bool.eq_false_iff.mpr c10
     subst c10
     have H1 : ((lambrequinref01_Compare.f kj2 ((rd_T36 l0 x5_1).isSym) ((rd_T36 l0 x5_1).sym) ((rd_T36 l0 x5_1).n) ((rd_T36 l1 x5_1).isSym) ((rd_T36 l1 x5_1).sym) ((rd_T36 l1 x5_1).n)).bind fun t106 => (some t106)) = some r := by rw [if_neg (show ¬ (false = true) by decide)] at H; exact H
     clear H
     have H := H1
     clear H1
     replace H := Option.bind_eq_some_iff.mp H
     obtain ⟨t106, A130, H⟩ := H
     replace H : (some t106) = some r := H
     have A13 := am A130
     clear A130
     obtain rfl := Option.some.inj H
     try go_wp2
     replace HB := am (below_drew1 HB.out)
     have p101 : 0 ≤ (x5_1 : Int) := dt_
     have q101 : x5_1 < (l0.length : Int) := dt_
     obtain ⟨ad101, e101, hx101_0, hx101_1, hx101_2⟩ := at_T36 HR0.out x5_1 p101 q101
     have hw101_2 := hx101_2
     have hw101_1 := hx101_1
     have hw101_0 := hx101_0
     cases e101
     replace hx101_0 := up_ HB.out hx101_0
     replace hx101_1 := up_ HB.out hx101_1
     replace hx101_2 := up_ HB.out hx101_2
     replace p101 := eq_true p101
     replace q101 := eq_true q101
     have p102 : 0 ≤ (x5_1 : Int) := dt_
     have q102 : x5_1 < (l1.length : Int) := dt_
     obtain ⟨ad102, e102, hx102_0, hx102_1, hx102_2⟩ := at_T36 HR1.out x5_1 p102 q102
     have hw102_2 := hx102_2
     have hw102_1 := hx102_1
     have hw102_0 := hx102_0
     cases e102
     replace hx102_0 := up_ HB.out hx102_0
     replace hx102_1 := up_ HB.out hx102_1
     replace hx102_2 := up_ HB.out hx102_2
     replace p102 := eq_true p102
     replace q102 := eq_true q102
     refine start_ (n := 10) (S := fun w' => w'.cell? (ad101.add ((x5_1).toNat * 3)) = some (.bool ((rd_T36 l0 x5_1).isSym)) ∧ w'.cell? ⟨(ad101.add ((x5_1).toNat * 3)).block, (ad101.add ((x5_1).toNat * 3)).off + 1, none⟩ = some (.string ((rd_T36 l0 x5_1).sym)) ∧ w'.cell? ⟨(ad101.add ((x5_1).toNat * 3)).block, (ad101.add ((x5_1).toNat * 3)).off + 2, none⟩ = some (.int .i64 ((rd_T36 l0 x5_1).n)) ∧ w'.cell? (ad102.add ((x5_1).toNat * 3)) = some (.bool ((rd_T36 l1 x5_1).isSym)) ∧ w'.cell? ⟨(ad102.add ((x5_1).toNat * 3)).block, (ad102.add ((x5_1).toNat * 3)).off + 1, none⟩ = some (.string ((rd_T36 l1 x5_1).sym)) ∧ w'.cell? ⟨(ad102.add ((x5_1).toNat * 3)).block, (ad102.add ((x5_1).toNat * 3)).off + 2, none⟩ = some (.int .i64 ((rd_T36 l1 x5_1).n))) (ds := []) (bl 10 0) (by kernel_rfl) rfl rfl ⟨(up_ HB.out hw101_0), (up_ HB.out hw101_1), (up_ HB.out hw101_2), (up_ HB.out hw102_0), (up_ HB.out hw102_1), (up_ HB.out hw102_2)⟩ (fun hHeld => ?_); refine with_tabW lambrequinref03_Compare.tab4 lambrequinref03_Compare.bits4 (fun HT_ HW_ => ?_)
     generalize wc.drew = w14 at HB hx101_0 hx101_1 hx101_2 hx102_0 hx102_1 hx102_2 hHeld ⊢
     refine pu_ (i := 0) (N := some 18) (bl 10 1) rfl rfl (any_of HT_.out (by kernel_rfl)) ?_
     refine pu_ (i := 1) (N := some 19) (bl 10 3) rfl rfl (any_of HT_.out (by kernel_rfl)) ?_
     refine pu_ (i := 2) (N := some 20) (bl 10 7) rfl rfl (any_of HT_.out (by kernel_rfl)) ?_
     refine pu_ (i := 4) (N := some 22) (bl 10 23) rfl rfl (any_of HT_.out (by kernel_rfl)) ?_
     refine pu_ (i := 5) (N := some 23) (bl 10 55) rfl rfl (any_of HT_.out (by kernel_rfl)) ?_
     refine pu_ (i := 6) (N := some 24) (bl 10 119) rfl rfl (any_of HT_.out (by kernel_rfl)) ?_
     refine take_ (i := 3) (N := some 21) (v := ?_) (a' := ?_) (bl 10 127) rfl rfl (take_ofW HT_.out HW_.out (by kernel_rfl)) (fun _ _ _ h => h) (Or.inl ⟨by rfl, ?_⟩) hHeld ?_ ?_
     rotate_left
     ·rintro w' ⟨s0, s1, s2, s3, s4, s5⟩
      go_simp
      with_reducible rfl
     rotate_left
     ·simp only [Act.put, sA, sZ, sS, i64_w, i32_w]
      rfl
     refine take_ (i := 7) (N := some 25) (v := ?_) (a' := ?_) (bl 10 255) rfl rfl (take_ofW HT_.out HW_.out (by kernel_rfl)) (fun _ _ _ h => h) (Or.inl ⟨by rfl, ?_⟩) hHeld ?_ ?_
     rotate_left
     ·rintro w' ⟨s0, s1, s2, s3, s4, s5⟩
      go_simp
      with_reducible rfl
     rotate_left
     ·simp only [Act.put, sA, sZ, sS, i64_w, i32_w]
      rfl
     refine one_ (i := 8) (N := some 26) (bl 10 511) rfl rfl (one_of HT_.out (by kernel_rfl)) (by decide) (fun K hK => ?_)
     refine goes_ Tryz.func43 (by kernel_rfl) rfl #[.agg #[.bool ((rd_T36 l0 x5_1).isSym), .string ((rd_T36 l0 x5_1).sym), .int .i64 ((rd_T36 l0 x5_1).n)], .agg #[.bool ((rd_T36 l1 x5_1).isSym), .string ((rd_T36 l1 x5_1).sym), .int .i64 ((rd_T36 l1 x5_1).n)]] (by rfl) rfl rfl gl_ ?_
     with_reducible refine (lambrequinref01_Same.calls kj2 ((rd_T36 l0 x5_1).isSym) ((rd_T36 l0 x5_1).sym) ((rd_T36 l0 x5_1).n) ((rd_T36 l1 x5_1).isSym) ((rd_T36 l1 x5_1).sym) ((rd_T36 l1 x5_1).n) false _ A9.out).mono ?_
     rintro e w15 ⟨rfl, hb⟩
     refine ⟨_, rfl, ?_⟩
     replace HB := am (bs_ HB.out hb)
     (try clear hb)
     (try clear hb2)
     (try clear hk)
     (try clear hi)
     refine hK.out _ _ ⟨(up_ HB.out hw101_0), (up_ HB.out hw101_1), (up_ HB.out hw101_2), (up_ HB.out hw102_0), (up_ HB.out hw102_1), (up_ HB.out hw102_2)⟩ (fun hHeld => ?_)
     clear hK K
     refine norm_ (a' := ?_) ?_ ?_
     rotate_left
     ·show Act.put _ (some 26) _ = _
      simp only [Act.put, sA, sZ, sS, i64_w, i32_w]
      rfl
     refine pu_ (i := 9) (N := some 27) (bl 10 1023) rfl rfl (any_of HT_.out (by kernel_rfl)) ?_
     refine done_ (done_of HT_.out (by kernel_rfl)) ?_
     try go_wp2
     replace HB := am (below_drew1 HB.out)
     have p104 : 0 ≤ (x5_1 : Int) := dt_
     have q104 : x5_1 < (l0.length : Int) := dt_
     obtain ⟨ad104, e104, hx104_0, hx104_1, hx104_2⟩ := at_T36 HR0.out x5_1 p104 q104
     have hw104_2 := hx104_2
     have hw104_1 := hx104_1
     have hw104_0 := hx104_0
     obtain rfl : ad101 = ad104 := (by injection e104)
     replace hx104_0 := up_ HB.out hx104_0
     replace hx104_1 := up_ HB.out hx104_1
     replace hx104_2 := up_ HB.out hx104_2
     replace p104 := eq_true p104
     replace q104 := eq_true q104
     have p105 : 0 ≤ (x5_1 : Int) := dt_
     have q105 : x5_1 < (l1.length : Int) := dt_
     obtain ⟨ad105, e105, hx105_0, hx105_1, hx105_2⟩ := at_T36 HR1.out x5_1 p105 q105
     have hw105_2 := hx105_2
     have hw105_1 := hx105_1
     have hw105_0 := hx105_0
     obtain rfl : ad102 = ad105 := (by injection e105)
     replace hx105_0 := up_ HB.out hx105_0
     replace hx105_1 := up_ HB.out hx105_1
     replace hx105_2 := up_ HB.out hx105_2
     replace p105 := eq_true p105
     replace q105 := eq_true q105
     refine start_ (n := 10) (S := fun w' => w'.cell? (ad101.add ((x5_1).toNat * 3)) = some (.bool ((rd_T36 l0 x5_1).isSym)) ∧ w'.cell? ⟨(ad101.add ((x5_1).toNat * 3)).block, (ad101.add ((x5_1).toNat * 3)).off + 1, none⟩ = some (.string ((rd_T36 l0 x5_1).sym)) ∧ w'.cell? ⟨(ad101.add ((x5_1).toNat * 3)).block, (ad101.add ((x5_1).toNat * 3)).off + 2, none⟩ = some (.int .i64 ((rd_T36 l0 x5_1).n)) ∧ w'.cell? (ad102.add ((x5_1).toNat * 3)) = some (.bool ((rd_T36 l1 x5_1).isSym)) ∧ w'.cell? ⟨(ad102.add ((x5_1).toNat * 3)).block, (ad102.add ((x5_1).toNat * 3)).off + 1, none⟩ = some (.string ((rd_T36 l1 x5_1).sym)) ∧ w'.cell? ⟨(ad102.add ((x5_1).toNat * 3)).block, (ad102.add ((x5_1).toNat * 3)).off + 2, none⟩ = some (.int .i64 ((rd_T36 l1 x5_1).n))) (ds := []) (bl 10 0) (by kernel_rfl) rfl rfl ⟨(up_ HB.out hw104_0), (up_ HB.out hw104_1), (up_ HB.out hw104_2), (up_ HB.out hw105_0), (up_ HB.out hw105_1), (up_ HB.out hw105_2)⟩ (fun hHeld => ?_); refine with_tabW lambrequinref03_Compare.tab5 lambrequinref03_Compare.bits5 (fun HT_ HW_ => ?_)
     generalize w15.drew = w16 at HB hx104_0 hx104_1 hx104_2 hx105_0 hx105_1 hx105_2 hHeld ⊢
     refine pu_ (i := 0) (N := some 28) (bl 10 1) rfl rfl (any_of HT_.out (by kernel_rfl)) ?_
     refine pu_ (i := 1) (N := some 29) (bl 10 3) rfl rfl (any_of HT_.out (by kernel_rfl)) ?_
     refine pu_ (i := 2) (N := some 30) (bl 10 7) rfl rfl (any_of HT_.out (by kernel_rfl)) ?_
     refine pu_ (i := 4) (N := some 32) (bl 10 23) rfl rfl (any_of HT_.out (by kernel_rfl)) ?_
     refine pu_ (i := 5) (N := some 33) (bl 10 55) rfl rfl (any_of HT_.out (by kernel_rfl)) ?_
     refine pu_ (i := 6) (N := some 34) (bl 10 119) rfl rfl (any_of HT_.out (by kernel_rfl)) ?_
     refine take_ (i := 3) (N := some 31) (v := ?_) (a' := ?_) (bl 10 127) rfl rfl (take_ofW HT_.out HW_.out (by kernel_rfl)) (fun _ _ _ h => h) (Or.inl ⟨by rfl, ?_⟩) hHeld ?_ ?_
     rotate_left
     ·rintro w' ⟨s0, s1, s2, s3, s4, s5⟩
      go_simp
      with_reducible rfl
     rotate_left
     ·simp only [Act.put, sA, sZ, sS, i64_w, i32_w]
      rfl
     refine take_ (i := 7) (N := some 35) (v := ?_) (a' := ?_) (bl 10 255) rfl rfl (take_ofW HT_.out HW_.out (by kernel_rfl)) (fun _ _ _ h => h) (Or.inl ⟨by rfl, ?_⟩) hHeld ?_ ?_
     rotate_left
     ·rintro w' ⟨s0, s1, s2, s3, s4, s5⟩
      go_simp
      with_reducible rfl
     rotate_left
     ·simp only [Act.put, sA, sZ, sS, i64_w, i32_w]
      rfl
     refine one_ (i := 8) (N := some 36) (bl 10 511) rfl rfl (one_of HT_.out (by kernel_rfl)) (by decide) (fun K hK => ?_)
     refine goes_ Tryz.func44 (by kernel_rfl) rfl #[.agg #[.bool ((rd_T36 l0 x5_1).isSym), .string ((rd_T36 l0 x5_1).sym), .int .i64 ((rd_T36 l0 x5_1).n)], .agg #[.bool ((rd_T36 l1 x5_1).isSym), .string ((rd_T36 l1 x5_1).sym), .int .i64 ((rd_T36 l1 x5_1).n)]] (by rfl) rfl rfl gl_ ?_
     with_reducible refine (lambrequinref01_Compare.calls kj2 ((rd_T36 l0 x5_1).isSym) ((rd_T36 l0 x5_1).sym) ((rd_T36 l0 x5_1).n) ((rd_T36 l1 x5_1).isSym) ((rd_T36 l1 x5_1).sym) ((rd_T36 l1 x5_1).n) t106 _ A13.out).mono ?_
     rintro e w17 ⟨rfl, hb⟩
     refine ⟨_, rfl, ?_⟩
     replace HB := am (bs_ HB.out hb)
     (try clear hb)
     (try clear hb2)
     (try clear hk)
     (try clear hi)
     refine hK.out _ _ ⟨(up_ HB.out hw104_0), (up_ HB.out hw104_1), (up_ HB.out hw104_2), (up_ HB.out hw105_0), (up_ HB.out hw105_1), (up_ HB.out hw105_2)⟩ (fun hHeld => ?_)
     clear hK K
     refine norm_ (a' := ?_) ?_ ?_
     rotate_left
     ·show Act.put _ (some 36) _ = _
      simp only [Act.put, sA, sZ, sS, i64_w, i32_w]
      rfl
     refine pu_ (i := 9) (N := some 4) (bl 10 1023) rfl rfl (any_of HT_.out (by kernel_rfl)) ?_
     refine done_ (done_of HT_.out (by kernel_rfl)) ?_
     try go_wp2
     go_ret
     exact ⟨er_, pL HB.out⟩
def lambrequinref14_Has.l0 : Nat → List (Fact) → ByteArray → List (Val) → Int → Option (Bool)
 | 0, _, _, _, _ => none
 | k + 1, x0, x1, x2, x7 => if x7 < (x0.length : Int) then (if 0 ≤ x7 then (if ((rd_T26 x0 x7).pred).toList = x1.toList then ((lambrequinref03_Compare.f k ((rd_T26 x0 x7).args) x2).bind fun t103 => (if t103 = 0 then (some true) else (lambrequinref14_Has.l0 k x0 x1 x2 (wrap64 (x7 + 1))))) else (lambrequinref14_Has.l0 k x0 x1 x2 (wrap64 (x7 + 1)))) else (none)) else (some false)
def lambrequinref14_Has.f (k : Nat) (l0 : List (Fact)) (a1 : ByteArray) (l2 : List (Val)) : Option (Bool) := lambrequinref14_Has.l0 k l0 a1 l2 0
theorem lambrequinref14_Has.mono_l : ∀ k, (∀ y0 y1 y2 y3, LeO (lambrequinref14_Has.l0 k y0 y1 y2 y3) (lambrequinref14_Has.l0 (k + 1) y0 y1 y2 y3))
 | 0 => fun _ _ _ _ r h => by simp [lambrequinref14_Has.l0] at h
 | k + 1 => by
  have ih0 := lambrequinref14_Has.mono_l k
  intro y0 y1 y2 y3
  unfold lambrequinref14_Has.l0
  repeat' first
  | (with_reducible exact ih0 _ _ _ _)
  | (with_reducible exact lambrequinref03_Compare.mono _ _ _)
  | (with_reducible exact LeO.refl _)
  | (with_reducible exact LeO.none _)
  | (with_reducible refine LeO.ite ?_ ?_)
  | (with_reducible refine LeO.bind ?_ (fun _ => ?_))
  | exact ih0 _ _ _ _
  | exact lambrequinref03_Compare.mono _ _ _
  | exact LeO.none _
  | refine LeO.ite ?_ ?_
  | refine LeO.bind ?_ (fun _ => ?_)
theorem lambrequinref14_Has.mono : ∀ a0 a1 a2 k, LeO (lambrequinref14_Has.f k a0 a1 a2) (lambrequinref14_Has.f (k + 1) a0 a1 a2) := by
 intro a0 a1 a2 k
 have ih0 := lambrequinref14_Has.mono_l k
 unfold lambrequinref14_Has.f
 repeat' first
   | (with_reducible exact ih0 _ _ _ _)
   | (with_reducible exact lambrequinref03_Compare.mono _ _ _)
   | (with_reducible exact LeO.refl _)
   | (with_reducible exact LeO.none _)
   | (with_reducible refine LeO.ite ?_ ?_)
   | (with_reducible refine LeO.bind ?_ (fun _ => ?_))
   | exact ih0 _ _ _ _
   | exact lambrequinref03_Compare.mono _ _ _
   | exact LeO.none _
   | refine LeO.ite ?_ ?_
   | refine LeO.bind ?_ (fun _ => ?_)
set_option maxHeartbeats 8000000 in
set_option maxRecDepth 100000 in
theorem lambrequinref14_Has.calls (k : Nat) (A0 : Option Addr) (c0 : Nat) (l0 : List (Fact)) (a1 : ByteArray) (A2 : Option Addr) (c2 : Nat) (l2 : List (Val)) (r : Bool) (w : World) (hr0 : Kd.C k26 w A0 l0.length l0) (hc0 : l0.length ≤ c0) (hr2 : Kd.C k36 w A2 l2.length l2) (hc2 : l2.length ≤ c2) (h : lambrequinref14_Has.f k l0 a1 l2 = some r) :
  Calls Tryz.prog 9 #[.slice A0 l0.length c0, .string a1, .slice A2 l2.length c2] w fun e w' => e = .returned (.bool r) ∧ Below w.heap.size w w' := by
 have HR0 := am hr0
 have HC0 := am hc0
 clear hr0 hc0
 have HR2 := am hr2
 have HC2 := am hc2
 clear hr2 hc2
 have HB := am (Below.refl w.heap.size w)
 have H : (lambrequinref14_Has.l0 k l0 a1 l2 0) = some r := h
 clear h
 have H' := am H
 clear H
 go_enter Tryz.func9, Tryz.ntmps9
 go_wp2
 go_loopg [7] k (fun kq v7 w' => ∃ (x7_1 : Int), v7 = .int .i64 x7_1 ∧ Aside0 (lambrequinref14_Has.l0 kq l0 a1 l2 x7_1 = some r) ∧ Aside0 (kq ≤ k) ∧ Aside0 (Below w.heap.size w w'))
 case atStart => exact ⟨(0), rs_, H', ⟨Nat.le_refl _⟩, ⟨pL HB.out⟩⟩
 case round =>
  clear H'
  try clear c2
  try clear p2
  obtain ⟨x7_1, rfl, HA, HK1, HB⟩ := hrel
  cases gk with
  | zero => exact absurd HA.out (by simp [lambrequinref14_Has.l0])
  | succ k1 =>
   have H := HA.out
   clear HA
   simp only [lambrequinref14_Has.l0] at H
   by_cases c4 : x7_1 < (l0.length : Int)
   rotate_left
   ·rw [if_neg c4] at H
    have c4b0 : decide (x7_1 < (l0.length : Int)) = false := decide_eq_false c4
    clear c4
    obtain rfl := Option.some.inj H
    go_wp2
    go_ret
    exact ⟨er_, pL HB.out⟩
   rw [if_pos c4] at H
   have c4b0 : decide (x7_1 < (l0.length : Int)) = true := decide_eq_true c4
   clear c4
   by_cases c5 : 0 ≤ x7_1
   rotate_left
   ·rw [if_neg c5] at H
    exact absurd H (by simp)
   rw [if_pos c5] at H
   have c5b0 : decide (0 ≤ x7_1) = true := decide_eq_true c5
   clear c5
   by_cases c6 : ((rd_T26 l0 x7_1).pred).toList = a1.toList
   rotate_left
   ·rw [if_neg c6] at H
    have c6b0 : (((rd_T26 l0 x7_1).pred).toList == a1.toList) = false := beq_eq_false_iff_ne.mpr c6
    have c6b1 : (((rd_T26 l0 x7_1).pred).toList != a1.toList) = true := bne_iff_ne.mpr c6
    have H' := am H
    clear H
    have p101 : 0 ≤ (x7_1 : Int) := dt_
    have q101 : x7_1 < (l0.length : Int) := dt_
    obtain ⟨ad101, A101_1, c101_1, e101, hx101_0, hx101_1, hl101_1, hi101_1⟩ := at_T26 HR0.out x7_1 p101 q101
    cases e101
    replace hx101_0 := up_ HB.out hx101_0
    replace hx101_1 := up_ HB.out hx101_1
    have HR101_1 := am hi101_1
    have HC101_1 := am hl101_1
    clear hi101_1 hl101_1
    replace p101 := eq_true p101
    replace q101 := eq_true q101
    go_wp2
    go_roundg k1
    case measure => have := HK1.out; omega
    case rel => exact ⟨(wrap64 (x7_1 + 1)), rs_, H', ⟨by have := HK1.out; omega⟩, ⟨pL HB.out⟩⟩
   rw [if_pos c6] at H
   have c6b0 : (((rd_T26 l0 x7_1).pred).toList == a1.toList) = true := beq_iff_eq.mpr c6
   have c6b1 : (((rd_T26 l0 x7_1).pred).toList != a1.toList) = false := bne_eq_false_iff_eq.mpr c6
   clear c6
   replace H := Option.bind_eq_some_iff.mp H
   obtain ⟨t103, A70, H⟩ := H
   replace H : (if t103 = 0 then (some true) else (lambrequinref14_Has.l0 k1 l0 a1 l2 (wrap64 (x7_1 + 1)))) = some r := H
   have A7 := am A70
   clear A70
   by_cases c8 : t103 = 0
   ·rw [if_pos c8] at H
    have c8b0 : (t103 == 0) = true := beq_iff_eq.mpr c8
    have c8b1 : (t103 != 0) = false := bne_eq_false_iff_eq.mpr c8
    clear c8
    obtain rfl := Option.some.inj H
    have p101 : 0 ≤ (x7_1 : Int) := dt_
    have q101 : x7_1 < (l0.length : Int) := dt_
    obtain ⟨ad101, A101_1, c101_1, e101, hx101_0, hx101_1, hl101_1, hi101_1⟩ := at_T26 HR0.out x7_1 p101 q101
    cases e101
    replace hx101_0 := up_ HB.out hx101_0
    replace hx101_1 := up_ HB.out hx101_1
    have HR101_1 := am hi101_1
    have HC101_1 := am hl101_1
    clear hi101_1 hl101_1
    replace p101 := eq_true p101
    replace q101 := eq_true q101
    have p102 : 0 ≤ (x7_1 : Int) := dt_
    have q102 : x7_1 < (l0.length : Int) := dt_
    obtain ⟨ad102, A102_1, c102_1, e102, hx102_0, hx102_1, hl102_1, hi102_1⟩ := at_T26 HR0.out x7_1 p102 q102
    obtain rfl : ad101 = ad102 := (by injection e102)
    replace hx102_0 := up_ HB.out hx102_0
    replace hx102_1 := up_ HB.out hx102_1
    have HR102_1 := am hi102_1
    have HC102_1 := am hl102_1
    clear hi102_1 hl102_1
    replace p102 := eq_true p102
    replace q102 := eq_true q102
    have ea_ := Option.some.inj (hx101_1.symm.trans hx102_1)
    injection ea_ with ea_ en_ ec_
    subst ea_
    subst ec_
    clear en_
    go_wp2_with (first | (go_at_call 26; (with_reducible refine (lambrequinref03_Compare.calls k1 _ _ ((rd_T26 l0 x7_1).args) _ _ l2 t103 _ ?side1 ?side2 ?side3 ?side4 A7.out).mono ?_); (case side1 => repeat (first | exact (Kd.C_below HR102_1.out HB.out) | (with_reducible refine Kd.C_alloc ?_ _) | (with_reducible refine Kd.C_drewN ?_ _) | (with_reducible refine Kd.C_drew ?_))); (case side2 => exact HC102_1.out); (case side3 => repeat (first | exact (Kd.C_below HR2.out HB.out) | (with_reducible refine Kd.C_alloc ?_ _) | (with_reducible refine Kd.C_drewN ?_ _) | (with_reducible refine Kd.C_drew ?_))); (case side4 => exact HC2.out); rintro e w9 ⟨rfl, hb⟩; replace HB := am (bs_ HB.out hb); (try clear hb); (try clear hb2); (try clear hk); (try clear hi)))
    go_ret
    exact ⟨er_, pL HB.out⟩
   rw [if_neg c8] at H
   have c8b0 : (t103 == 0) = false := beq_eq_false_iff_ne.mpr c8
   have c8b1 : (t103 != 0) = true := bne_iff_ne.mpr c8
   have H' := am H
   clear H
   have p101 : 0 ≤ (x7_1 : Int) := dt_
   have q101 : x7_1 < (l0.length : Int) := dt_
   obtain ⟨ad101, A101_1, c101_1, e101, hx101_0, hx101_1, hl101_1, hi101_1⟩ := at_T26 HR0.out x7_1 p101 q101
   cases e101
   replace hx101_0 := up_ HB.out hx101_0
   replace hx101_1 := up_ HB.out hx101_1
   have HR101_1 := am hi101_1
   have HC101_1 := am hl101_1
   clear hi101_1 hl101_1
   replace p101 := eq_true p101
   replace q101 := eq_true q101
   have p102 : 0 ≤ (x7_1 : Int) := dt_
   have q102 : x7_1 < (l0.length : Int) := dt_
   obtain ⟨ad102, A102_1, c102_1, e102, hx102_0, hx102_1, hl102_1, hi102_1⟩ := at_T26 HR0.out x7_1 p102 q102
   obtain rfl : ad101 = ad102 := (by injection e102)
   replace hx102_0 := up_ HB.out hx102_0
   replace hx102_1 := up_ HB.out hx102_1
   have HR102_1 := am hi102_1
   have HC102_1 := am hl102_1
   clear hi102_1 hl102_1
   replace p102 := eq_true p102
   replace q102 := eq_true q102
   have ea_ := Option.some.inj (hx101_1.symm.trans hx102_1)
   injection ea_ with ea_ en_ ec_
   subst ea_
   subst ec_
   clear en_
   go_wp2_with (first | (go_at_call 26; (with_reducible refine (lambrequinref03_Compare.calls k1 _ _ ((rd_T26 l0 x7_1).args) _ _ l2 t103 _ ?side1 ?side2 ?side3 ?side4 A7.out).mono ?_); (case side1 => repeat (first | exact (Kd.C_below HR102_1.out HB.out) | (with_reducible refine Kd.C_alloc ?_ _) | (with_reducible refine Kd.C_drewN ?_ _) | (with_reducible refine Kd.C_drew ?_))); (case side2 => exact HC102_1.out); (case side3 => repeat (first | exact (Kd.C_below HR2.out HB.out) | (with_reducible refine Kd.C_alloc ?_ _) | (with_reducible refine Kd.C_drewN ?_ _) | (with_reducible refine Kd.C_drew ?_))); (case side4 => exact HC2.out); rintro e w10 ⟨rfl, hb⟩; replace HB := am (bs_ HB.out hb); (try clear hb); (try clear hb2); (try clear hk); (try clear hi)))
   go_roundg k1
   case measure => have := HK1.out; omega
   case rel => exact ⟨(wrap64 (x7_1 + 1)), rs_, H', ⟨by have := HK1.out; omega⟩, ⟨pL HB.out⟩⟩
def lambrequinref14_Compare.f (k : Nat) (a0_0 : ByteArray) (l0_1 : List (Val)) (a1_0 : ByteArray) (l1_1 : List (Val)) : Option (Int) := (lambrequinref01_Compare.f k true a0_0 0 true a1_0 0).bind fun t103 => (if t103 = 0 then ((lambrequinref03_Compare.f k l0_1 l1_1).bind fun t104 => (some t104)) else (some t103))
theorem lambrequinref14_Compare.mono : ∀ a0 a1 a2 a3 k, LeO (lambrequinref14_Compare.f k a0 a1 a2 a3) (lambrequinref14_Compare.f (k + 1) a0 a1 a2 a3) := by
 intro a0 a1 a2 a3 k
 unfold lambrequinref14_Compare.f
 repeat' first
   | (with_reducible exact lambrequinref01_Compare.mono _ _ _ _ _ _ _)
   | (with_reducible exact lambrequinref03_Compare.mono _ _ _)
   | (with_reducible exact LeO.refl _)
   | (with_reducible exact LeO.none _)
   | (with_reducible refine LeO.ite ?_ ?_)
   | (with_reducible refine LeO.bind ?_ (fun _ => ?_))
   | exact lambrequinref01_Compare.mono _ _ _ _ _ _ _
   | exact lambrequinref03_Compare.mono _ _ _
   | exact LeO.none _
   | refine LeO.ite ?_ ?_
   | refine LeO.bind ?_ (fun _ => ?_)
set_option maxHeartbeats 8000000 in
set_option maxRecDepth 100000 in
theorem lambrequinref14_Compare.calls (k : Nat) (a0_0 : ByteArray) (A0_1 : Option Addr) (c0_1 : Nat) (l0_1 : List (Val)) (a1_0 : ByteArray) (A1_1 : Option Addr) (c1_1 : Nat) (l1_1 : List (Val)) (r : Int) (w : World) (hr0_1 : Kd.C k36 w A0_1 l0_1.length l0_1) (hc0_1 : l0_1.length ≤ c0_1) (hr1_1 : Kd.C k36 w A1_1 l1_1.length l1_1) (hc1_1 : l1_1.length ≤ c1_1) (h : lambrequinref14_Compare.f k a0_0 l0_1 a1_0 l1_1 = some r) :
  Calls Tryz.prog 38 #[.agg #[.string a0_0, .slice A0_1 l0_1.length c0_1], .agg #[.string a1_0, .slice A1_1 l1_1.length c1_1]] w fun e w' => e = .returned (.int .i64 r) ∧ Below w.heap.size w w' := by
 have hu26 := Tryz.underlying26
 have hu36 := Tryz.underlying36
 have HR0_1 := am hr0_1
 have HC0_1 := am hc0_1
 clear hr0_1 hc0_1
 have HR1_1 := am hr1_1
 have HC1_1 := am hc1_1
 clear hr1_1 hc1_1
 have HB := am (Below.refl w.heap.size w)
 have H : ((lambrequinref01_Compare.f k true a0_0 0 true a1_0 0).bind fun t103 => (if t103 = 0 then ((lambrequinref03_Compare.f k l0_1 l1_1).bind fun t104 => (some t104)) else (some t103))) = some r := h
 clear h
 replace H := Option.bind_eq_some_iff.mp H
 obtain ⟨t103, A30, H⟩ := H
 replace H : (if t103 = 0 then ((lambrequinref03_Compare.f k l0_1 l1_1).bind fun t104 => (some t104)) else (some t103)) = some r := H
 have A3 := am A30
 clear A30
 by_cases c4 : t103 = 0
 ·rw [if_pos c4] at H
  have c4b0 : (t103 == 0) = true := beq_iff_eq.mpr c4
  have c4b1 : (t103 != 0) = false := bne_eq_false_iff_eq.mpr c4
  clear c4
  replace H := Option.bind_eq_some_iff.mp H
  obtain ⟨t104, A50, H⟩ := H
  replace H : (some t104) = some r := H
  have A5 := am A50
  clear A50
  obtain rfl := Option.some.inj H
  go_enter Tryz.func38, Tryz.ntmps38
  go_wp2_with (first | ((with_reducible refine gate_dst (N := 2) rfl ?_); refine box_event ?hg (N := 2) ?hd (cs := #[.string a0_0, .slice A0_1 l0_1.length c0_1]) (t := 26) ?hr ?_; (case hd => rfl); (case hg => rfl); (case hr => first | (go_simp; done) | (go_simp; rfl)); intro gb101 hg w6 hbox hb; have BK101 := am (hbox); have GW101 := am (gw_ hg HB.out); have GE101 := GW101; replace HB := am (bs_ HB.out hb); clear hb hbox hg) | ((with_reducible refine gate_dst (N := 3) rfl ?_); refine box_event ?hg (N := 3) ?hd (cs := #[.string a1_0, .slice A1_1 l1_1.length c1_1]) (t := 26) ?hr ?_; (case hd => rfl); (case hg => rfl); (case hr => first | (go_simp; done) | (go_simp; rfl)); intro gb102 hg w7 hbox hb; have BK102 := am (hbox); have GW102 := am (gw_ hg HB.out); have GE102 := GW102; replace HB := am (bs_ HB.out hb); have NB101_102 := am (nb_ hg BK101.out); have NB102_101 := am NB101_102.out.symm; replace BK101 := am (bb_ BK101.out hb); clear hb hbox hg; have hnb8 := NB101_102.out; have hnc8 := NB102_101.out; obtain ⟨hcz9_0, hcz9_1, hfz9_0, hfz9_1⟩ := bc2 BK101.out; obtain ⟨hcz10_0, hcz10_1, hfz10_0, hfz10_1⟩ := bc2 BK102.out) | ((with_reducible refine gate_callee (f := 44) rfl ?_); refine goesL_ (some 12) rfl rfl Tryz.func44 (by kernel_rfl) rfl #[.agg #[.bool true, .string a0_0, .int .i64 0], .agg #[.bool true, .string a1_0, .int .i64 0]] rfl gl_ ?_; (with_reducible refine (lambrequinref01_Compare.calls k true a0_0 0 true a1_0 0 t103 _ A3.out).mono ?_); rintro e w11 ⟨rfl, hb⟩; refine ⟨_, rfl, ?_⟩; replace BK101 := am (bb_ BK101.out hb); replace BK102 := am (bb_ BK102.out hb); replace HB := am (bs_ HB.out hb); (try clear hb); (try clear hb2); (try clear hk); (try clear hi); obtain ⟨hcz12_0, hcz12_1, hfz12_0, hfz12_1⟩ := bc2 BK101.out; obtain ⟨hcz13_0, hcz13_1, hfz13_0, hfz13_1⟩ := bc2 BK102.out) | ((with_reducible refine gate_callee (f := 26) rfl ?_); refine goesL_ (some 20) rfl rfl Tryz.func26 (by kernel_rfl) rfl #[.slice A0_1 l0_1.length c0_1, .slice A1_1 l1_1.length c1_1] rfl gl_ ?_; (with_reducible refine (lambrequinref03_Compare.calls k _ _ l0_1 _ _ l1_1 t104 _ ?side1 ?side2 ?side3 ?side4 A5.out).mono ?_); (case side1 => repeat (first | exact (Kd.C_below HR0_1.out HB.out) | (with_reducible refine Kd.C_alloc ?_ _) | (with_reducible refine Kd.C_drewN ?_ _) | (with_reducible refine Kd.C_drew ?_))); (case side2 => exact HC0_1.out); (case side3 => repeat (first | exact (Kd.C_below HR1_1.out HB.out) | (with_reducible refine Kd.C_alloc ?_ _) | (with_reducible refine Kd.C_drewN ?_ _) | (with_reducible refine Kd.C_drew ?_))); (case side4 => exact HC1_1.out); rintro e w14 ⟨rfl, hb⟩; refine ⟨_, rfl, ?_⟩; replace BK101 := am (bb_ BK101.out hb); replace BK102 := am (bb_ BK102.out hb); replace HB := am (bs_ HB.out hb); (try clear hb); (try clear hb2); (try clear hk); (try clear hi)))
  go_ret
  exact ⟨er_, pL HB.out⟩
 rw [if_neg c4] at H
 have c4b0 : (t103 == 0) = false := beq_eq_false_iff_ne.mpr c4
 have c4b1 : (t103 != 0) = true := bne_iff_ne.mpr c4
 obtain rfl := Option.some.inj H
 go_enter Tryz.func38, Tryz.ntmps38
 go_wp2_with (first | ((with_reducible refine gate_dst (N := 2) rfl ?_); refine box_event ?hg (N := 2) ?hd (cs := #[.string a0_0, .slice A0_1 l0_1.length c0_1]) (t := 26) ?hr ?_; (case hd => rfl); (case hg => rfl); (case hr => first | (go_simp; done) | (go_simp; rfl)); intro gb101 hg w15 hbox hb; have BK101 := am (hbox); have GW101 := am (gw_ hg HB.out); have GE101 := GW101; replace HB := am (bs_ HB.out hb); clear hb hbox hg) | ((with_reducible refine gate_dst (N := 3) rfl ?_); refine box_event ?hg (N := 3) ?hd (cs := #[.string a1_0, .slice A1_1 l1_1.length c1_1]) (t := 26) ?hr ?_; (case hd => rfl); (case hg => rfl); (case hr => first | (go_simp; done) | (go_simp; rfl)); intro gb102 hg w16 hbox hb; have BK102 := am (hbox); have GW102 := am (gw_ hg HB.out); have GE102 := GW102; replace HB := am (bs_ HB.out hb); have NB101_102 := am (nb_ hg BK101.out); have NB102_101 := am NB101_102.out.symm; replace BK101 := am (bb_ BK101.out hb); clear hb hbox hg; have hnb17 := NB101_102.out; have hnc17 := NB102_101.out; obtain ⟨hcz18_0, hcz18_1, hfz18_0, hfz18_1⟩ := bc2 BK101.out; obtain ⟨hcz19_0, hcz19_1, hfz19_0, hfz19_1⟩ := bc2 BK102.out) | ((with_reducible refine gate_callee (f := 44) rfl ?_); refine goesL_ (some 12) rfl rfl Tryz.func44 (by kernel_rfl) rfl #[.agg #[.bool true, .string a0_0, .int .i64 0], .agg #[.bool true, .string a1_0, .int .i64 0]] rfl gl_ ?_; (with_reducible refine (lambrequinref01_Compare.calls k true a0_0 0 true a1_0 0 t103 _ A3.out).mono ?_); rintro e w20 ⟨rfl, hb⟩; refine ⟨_, rfl, ?_⟩; replace BK101 := am (bb_ BK101.out hb); replace BK102 := am (bb_ BK102.out hb); replace HB := am (bs_ HB.out hb); (try clear hb); (try clear hb2); (try clear hk); (try clear hi)))
 go_ret
 exact ⟨er_, pL HB.out⟩
end Go.Proofs.YtoekfmdcplphmaaGreat.H
/- the document's order of facts is the program's -/
namespace Go.Proofs.YtoekfmdcplphmaaGreat.H
open Go.RowKit Go.Proofs.YtoekfmdcplphmaaGreatW.PrintWords
def cmpL : List UInt8 → List UInt8 → Int
  | [], [] => 0
  | [], _ :: _ => -1
  | _ :: _, [] => 1
  | x :: l, y :: m => if x < y then -1 else if y < x then 1 else cmpL l m
theorem cmpL_eq : ∀ l m : List UInt8, cmpL l m = if l < m then -1 else if m < l then 1 else 0
  | [], [] => by simp [cmpL]
  | [], y :: m => by simp [cmpL]
  | x :: l, [] => by simp [cmpL]
  | x :: l, y :: m => by
    rw [cmpL, cmpL_eq l m]
    by_cases h : x < y
    · rw [if_pos h, if_pos (List.cons_lt_cons_iff.2 (.inl h))]
    · rw [if_neg h]
      by_cases h2 : y < x
      · rw [if_pos h2, if_neg, if_pos (List.cons_lt_cons_iff.2 (.inl h2))]
        intro q
        rcases List.cons_lt_cons_iff.1 q with q | ⟨rfl, q⟩
        · exact h q
        · exact h h2
      · have e : x = y := UInt8.le_antisymm (UInt8.not_lt.1 h2) (UInt8.not_lt.1 h)
        subst e
        rw [if_neg h2]
        have e1 : ∀ a b : List UInt8, (x :: a < x :: b) ↔ a < b := fun a b => by
          rw [List.cons_lt_cons_iff]
          constructor
          · rintro (q | ⟨_, q⟩)
            · exact absurd q h
            · exact q
          · exact fun q => .inr ⟨rfl, q⟩
        simp only [e1]
theorem cmpS_L (a b : ByteArray) : cmpS a b = cmpL (toL a) (toL b) := by rw [cmpL_eq]; rfl
theorem toL_len (a : ByteArray) : (toL a).length = a.size := by
  show a.data.toList.length = a.data.size
  exact Array.length_toList
theorem bt_toL {a : ByteArray} {i : Nat} {x : UInt8} {r : List UInt8} (h : (toL a).drop i = x :: r) : bt a i = (x.toNat : Int) ∧ i < a.size := by
  have hl : i < (toL a).length := by
    have := congrArg List.length h
    simp at this
    omega
  have hx : (toL a)[i]? = some x := by
    have := congrArg (fun z => z[0]?) h
    simpa using this
  have hs : i < a.size := by rw [← toL_len]; exact hl
  refine ⟨?_, hs⟩
  unfold bt
  rw [dif_pos (by simpa using hs)]
  have : a[i]'hs = x := by
    have := (List.getElem?_eq_some_iff.1 hx).2
    show a.data[i] = x
    simpa [toL] using this
  simp [this]
theorem drop_eq {α : Type} {l : List α} {n : Nat} {y : α} {r : List α} (h : l.drop n = y :: r) : l.drop (n + 1) = r := by
  have := congrArg (List.drop 1) h
  simpa [List.drop_drop, Nat.add_comm] using this
theorem drop_len {α : Type} {l : List α} {n : Nat} (h : l.drop n = []) : l.length ≤ n := by
  have := congrArg List.length h
  simp at this
  omega
theorem texts_l0 (a b : ByteArray) (ha : a.size ≤ 9223372036854775806) (hb : b.size ≤ 9223372036854775806) : ∀ (l : List UInt8) (i : Nat), (toL a).drop i = l → i ≤ a.size → i ≤ b.size →
    Ev (fun k => lambrequinref01_texts.l0 k a b i) (cmpL l ((toL b).drop i))
  | [], i, h, hia, hib => by
    have e := drop_len h
    rw [toL_len] at e
    refine Ev.step (fun k => by rw [lambrequinref01_texts.l0]) ?_
    refine Ev.neg (by omega) ?_
    refine Ev.step (fun k => by rw [lambrequinref01_texts.j1]) ?_
    refine Ev.neg (by decide) ?_
    cases hd : (toL b).drop i with
    | nil =>
      have e2 := drop_len hd
      rw [toL_len] at e2
      refine Ev.neg (by omega) ?_
      refine Ev.neg (by omega) ?_
      exact Ev.now _
    | cons y m =>
      have := (bt_toL hd).2
      refine Ev.pos (by omega) ?_
      exact Ev.now _
  | x :: l, i, h, hia, hib => by
    obtain ⟨hx, hi⟩ := bt_toL h
    refine Ev.step (fun k => by rw [lambrequinref01_texts.l0]) ?_
    refine Ev.pos (by omega) ?_
    refine Ev.step (fun k => by rw [lambrequinref01_texts.j1]) ?_
    cases hd : (toL b).drop i with
    | nil =>
      have e2 := drop_len hd
      rw [toL_len] at e2
      refine Ev.neg (by simp; omega) ?_
      refine Ev.neg (by omega) ?_
      refine Ev.pos (by omega) ?_
      exact Ev.now _
    | cons y m =>
      obtain ⟨hy, hj⟩ := bt_toL hd
      refine Ev.pos (by simp; omega) ?_
      refine Ev.pos (by omega) ?_
      refine Ev.pos (by omega) ?_
      refine Ev.pos (by omega) ?_
      rw [hx, hy, wrap_up (by omega), cmpL]
      by_cases h1 : x < y
      · rw [if_pos h1]
        refine Ev.pos (by have := UInt8.lt_iff_toNat_lt.1 h1; omega) (Ev.now _)
      · rw [if_neg h1]
        have q1 : ¬ (x.toNat : Int) < (y.toNat : Int) := fun q => h1 (UInt8.lt_iff_toNat_lt.2 (by omega))
        refine Ev.neg q1 ?_
        by_cases h2 : y < x
        · rw [if_pos h2]
          refine Ev.pos (by have := UInt8.lt_iff_toNat_lt.1 h2; omega) (Ev.now _)
        · rw [if_neg h2]
          have q2 : ¬ (x.toNat : Int) > (y.toNat : Int) := fun q => h2 (UInt8.lt_iff_toNat_lt.2 (by omega))
          refine Ev.neg q2 ?_
          rw [← drop_eq hd]
          exact texts_l0 a b ha hb l (i + 1) (drop_eq h) (by omega) (by omega)
theorem texts_ev (a b : ByteArray) (ha : a.size ≤ 9223372036854775806) (hb : b.size ≤ 9223372036854775806) : Ev (fun k => lambrequinref01_texts.f k a b) (cmpS a b) := by
  unfold lambrequinref01_texts.f
  rw [cmpS_L]
  exact texts_l0 a b ha hb (toL a) 0 rfl (by omega) (by omega)
/-- texts of a size that is read -/
def okV (v : Val) : Prop := v.sym.size ≤ 9223372036854775806
theorem ref01_ev (a b : Val) (ha : okV a) (hb : okV b) : Ev (fun k => lambrequinref01_Compare.f k a.isSym a.sym a.n b.isSym b.sym b.n) (cmpV a b) := by
  obtain ⟨s, t, n⟩ := a
  obtain ⟨s', t', n'⟩ := b
  unfold lambrequinref01_Compare.f cmpV
  cases s <;> cases s'
  · refine Ev.neg (by simp) ?_
    refine Ev.neg (by simp) ?_
    simp only [Bool.false_eq_true, if_false]
    unfold cmpI
    by_cases h : n < n'
    · refine Ev.iff (Ev.pos h (Ev.now _)) ?_
      rw [if_pos h]
    · refine Ev.neg h ?_
      by_cases h2 : n > n'
      · refine Ev.iff (Ev.pos h2 (Ev.now _)) ?_
        rw [if_neg h, if_pos h2]
      · refine Ev.iff (Ev.neg h2 (Ev.now _)) ?_
        rw [if_neg h, if_neg h2]
  · refine Ev.pos (by simp) ?_
    refine Ev.pos rfl ?_
    exact Ev.now _
  · refine Ev.pos (by simp) ?_
    refine Ev.neg (by simp) ?_
    exact Ev.now _
  · refine Ev.neg (by simp) ?_
    refine Ev.pos rfl ?_
    exact Ev.bind (texts_ev t t' ha hb) (Ev.now _)
theorem same01_ev (a b : Val) (ha : okV a) (hb : okV b) : Ev (fun k => lambrequinref01_Same.f k a.isSym a.sym a.n b.isSym b.sym b.n) (cmpV a b == 0) := by
  unfold lambrequinref01_Same.f
  exact Ev.bind (ref01_ev a b ha hb) (Ev.now _)
theorem ref03_l0 (a b : List Val) (ha : a.length ≤ 9223372036854775806) (hb : b.length ≤ 9223372036854775806) (hva : ∀ v ∈ a, okV v) (hvb : ∀ v ∈ b, okV v) : ∀ (l : List Val) (i : Nat), a.drop i = l → i ≤ a.length → i ≤ b.length →
    Ev (fun k => lambrequinref03_Compare.l0 k a b i) (cmpR l (b.drop i))
  | [], i, h, hia, hib => by
    have e := drop_len h
    refine Ev.step (fun k => by rw [lambrequinref03_Compare.l0]) ?_
    refine Ev.neg (by omega) ?_
    refine Ev.step (fun k => by rw [lambrequinref03_Compare.j1]) ?_
    refine Ev.neg (by decide) ?_
    cases hd : b.drop i with
    | nil =>
      have e2 := drop_len hd
      refine Ev.neg (by omega) ?_
      refine Ev.neg (by omega) ?_
      exact Ev.now _
    | cons y m =>
      have := (drop_more hd (by omega)).1
      refine Ev.pos (by omega) ?_
      exact Ev.now _
  | x :: l, i, h, hia, hib => by
    obtain ⟨g1, g2, g3, g4, g5⟩ := drop_more h (by omega)
    have hx : x ∈ a := List.mem_of_mem_drop (i := i) (by rw [h]; simp)
    refine Ev.step (fun k => by rw [lambrequinref03_Compare.l0]) ?_
    refine Ev.pos g1 ?_
    refine Ev.step (fun k => by rw [lambrequinref03_Compare.j1]) ?_
    cases hd : b.drop i with
    | nil =>
      have e2 := drop_len hd
      refine Ev.neg (by simp; omega) ?_
      refine Ev.neg (by omega) ?_
      refine Ev.pos (by omega) ?_
      exact Ev.now _
    | cons y m =>
      obtain ⟨f1, f2, f3, f4, f5⟩ := drop_more hd (by omega)
      have hy : y ∈ b := List.mem_of_mem_drop (i := i) (by rw [hd]; simp)
      refine Ev.pos (by simp; omega) ?_
      refine Ev.pos g2 ?_
      refine Ev.pos g1 ?_
      refine Ev.pos f1 ?_
      rw [show rd_T36 a i = x from g3 _, show rd_T36 b i = y from f3 _, g5, cmpR]
      refine Ev.bind (same01_ev x y (hva x hx) (hvb y hy)) ?_
      unfold lex2
      by_cases c : cmpV x y = 0
      · rw [if_pos c]
        refine Ev.pos (by simp [c]) ?_
        rw [← f4]
        exact ref03_l0 a b ha hb hva hvb l (i + 1) g4 (by omega) (by omega)
      · rw [if_neg c]
        refine Ev.neg (by simp [c]) ?_
        exact Ev.bind (ref01_ev x y (hva x hx) (hvb y hy)) (Ev.now _)
theorem ref03_ev (a b : List Val) (ha : a.length ≤ 9223372036854775806) (hb : b.length ≤ 9223372036854775806) (hva : ∀ v ∈ a, okV v) (hvb : ∀ v ∈ b, okV v) : Ev (fun k => lambrequinref03_Compare.f k a b) (cmpR a b) := by
  unfold lambrequinref03_Compare.f
  exact ref03_l0 a b ha hb hva hvb a 0 rfl (by omega) (by omega)
/-- facts of a size that is read -/
def okF (f : Fact) : Prop := f.pred.size ≤ 9223372036854775806 ∧ f.args.length ≤ 9223372036854775806 ∧ ∀ v ∈ f.args, okV v
theorem ref14_ev (a b : Fact) (ha : okF a) (hb : okF b) : Ev (fun k => lambrequinref14_Compare.f k a.pred a.args b.pred b.args) (cmpF a b) := by
  unfold lambrequinref14_Compare.f cmpF lex2
  refine Ev.bind (ref01_ev ⟨true, a.pred, 0⟩ ⟨true, b.pred, 0⟩ ha.1 hb.1) ?_
  have e : cmpV ⟨true, a.pred, 0⟩ ⟨true, b.pred, 0⟩ = cmpS a.pred b.pred := rfl
  rw [e]
  by_cases c : cmpS a.pred b.pred = 0
  · rw [if_pos c]
    refine Ev.pos c ?_
    exact Ev.bind (ref03_ev _ _ ha.2.1 hb.2.1 ha.2.2 hb.2.2) (Ev.now _)
  · rw [if_neg c]
    exact Ev.neg c (Ev.now _)
theorem rHas_l0 (l : List Fact) (x : Fact) (hl : l.length ≤ 9223372036854775806) (hok : ∀ f ∈ l, okF f) (hx : okF x) : ∀ (r : List Fact) (i : Nat), l.drop i = r → Ev (fun k => lambrequinref14_Has.l0 k l x.pred x.args i) (hasF r x)
  | [], i, h => by
    have e := drop_len h
    refine Ev.step (fun k => by rw [lambrequinref14_Has.l0]) ?_
    refine Ev.neg (by omega) ?_
    exact Ev.now _
  | y :: r, i, h => by
    obtain ⟨g1, g2, g3, g4, g5⟩ := drop_more h (by omega)
    have hy : y ∈ l := List.mem_of_mem_drop (i := i) (by rw [h]; simp)
    have ih := rHas_l0 l x hl hok hx r (i + 1) g4
    refine Ev.step (fun k => by rw [lambrequinref14_Has.l0]) ?_
    refine Ev.pos g1 ?_
    refine Ev.pos g2 ?_
    rw [show rd_T26 l i = y from g3 _, g5]
    have e : hasF (y :: r) x = (decide (cmpF y x = 0) || hasF r x) := rfl
    rw [e]
    by_cases hp : y.pred = x.pred
    · refine Ev.pos (lib_ba_eq.2 hp) ?_
      refine Ev.bind (ref03_ev _ _ (hok y hy).2.1 hx.2.1 (hok y hy).2.2 hx.2.2) ?_
      have e2 : cmpF y x = cmpR y.args x.args := by unfold cmpF lex2; rw [if_pos (cmpS_zero.2 hp)]
      rw [e2]
      by_cases c : cmpR y.args x.args = 0
      · refine Ev.pos c (Ev.some (by simp [c]))
      · refine Ev.neg c (Ev.iff ih (by simp [c]))
    · refine Ev.neg (fun q => hp (lib_ba_eq.1 q)) ?_
      have e2 : cmpF y x ≠ 0 := fun q => hp (cmpS_zero.1 (lex2_zero.1 q).1)
      exact Ev.iff ih (by simp [e2])
theorem rHas_ev (l : List Fact) (x : Fact) (hl : l.length ≤ 9223372036854775806) (hok : ∀ f ∈ l, okF f) (hx : okF x) : Ev (fun k => lambrequinref14_Has.f k l x.pred x.args) (hasF l x) := by
  unfold lambrequinref14_Has.f
  exact rHas_l0 l x hl hok hx l 0 rfl
section
variable {α : Type} [Inhabited α] [DecidableEq α]
theorem cut_mem (d : Array α) : ∀ (m : Nat), ∀ x, x ∈ Go.Lib.compactUpTo d m ↔ ∃ j, j < m ∧ d[j]! = x
  | 0, x => by simp [Go.Lib.compactUpTo]
  | m + 1, x => by
    rw [Go.Lib.compactUpTo_succ, List.mem_append, cut_mem d m x]
    constructor
    · rintro (⟨j, h1, h2⟩ | h)
      · exact ⟨j, by omega, h2⟩
      · split at h
        · exact ⟨m, by omega, by simpa using (List.mem_singleton.1 h).symm⟩
        · simp at h
    · rintro ⟨j, h1, h2⟩
      rcases Nat.lt_or_ge j m with h | h
      · exact .inl ⟨j, h, h2⟩
      · obtain rfl : j = m := by omega
        by_cases hk : Go.Lib.keeps d j = true
        · exact .inr (by rw [if_pos hk]; simp [h2])
        · left
          have : 0 < j ∧ d[j]! = d[j - 1]! := by
            unfold Go.Lib.keeps at hk
            simp at hk
            refine ⟨by omega, ?_⟩
            simpa using hk.2
          exact ⟨j - 1, by omega, by rw [← this.2]; exact h2⟩
theorem cut_sorted (lt : α → α → Prop) (le : α → α → Prop) (hle : ∀ a b c, le a b → le b c → le a c) (hlt : ∀ a b, le a b → a ≠ b → lt a b) (hll : ∀ a b c, le a b → lt b c → lt a c) (d : Array α) (hd : ∀ i j, i ≤ j → j < d.size → le d[i]! d[j]!) : ∀ (m : Nat), m ≤ d.size → (Go.Lib.compactUpTo d m).Pairwise lt
  | 0, _ => by simp [Go.Lib.compactUpTo]
  | m + 1, hm => by
    rw [Go.Lib.compactUpTo_succ, List.pairwise_append]
    refine ⟨cut_sorted lt le hle hlt hll d hd m (by omega), by split <;> simp, fun x hx y hy => ?_⟩
    split at hy
    case isFalse => simp at hy
    rename_i hk
    obtain ⟨j, hj, rfl⟩ := (cut_mem d m x).1 hx
    rw [List.mem_singleton.1 hy]
    unfold Go.Lib.keeps at hk
    simp at hk
    have hne : d[m - 1]! ≠ d[m]! := by
      intro e
      rcases hk with h | h
      · omega
      · exact h (by simpa using e.symm)
    exact hll _ _ _ (hd j (m - 1) (by omega) (by omega)) (hlt _ _ (hd (m - 1) m (by omega) (by omega)) hne)
end
def setS (l : List ByteArray) : List ByteArray := compactS (sortS l)
theorem toL_inj {a b : ByteArray} (h : toL a = toL b) : a = b := by rw [← ofL_toL a, ← ofL_toL b, h]
theorem map_toL_setS (l : List ByteArray) : (setS l).map toL = Go.Lib.compact ((l.map toL).mergeSort fun x y => decide (x ≤ y)) := by
  unfold setS compactS sortS
  rw [List.map_map, List.map_map]
  have e1 : ((toL ∘ ofL) : List UInt8 → List UInt8) = id := by funext x; simp [toL_ofL]
  rw [e1, List.map_id, List.map_id]
theorem mem_setS {l : List ByteArray} {x : ByteArray} : x ∈ setS l ↔ x ∈ l := by
  have h1 : x ∈ setS l ↔ toL x ∈ (setS l).map toL := by
    rw [List.mem_map]
    exact ⟨fun h => ⟨x, h, rfl⟩, fun ⟨y, h, e⟩ => toL_inj e ▸ h⟩
  have h2 : x ∈ l ↔ toL x ∈ (l.map toL).mergeSort fun x y => decide (x ≤ y) := by
    rw [List.mem_mergeSort, List.mem_map]
    exact ⟨fun h => ⟨x, h, rfl⟩, fun ⟨y, h, e⟩ => toL_inj e ▸ h⟩
  rw [h1, h2, map_toL_setS]
  unfold Go.Lib.compact
  generalize ((l.map toL).mergeSort fun x y => decide (x ≤ y)) = s
  rw [cut_mem, List.mem_iff_getElem]
  constructor
  · rintro ⟨j, hj, e⟩
    exact ⟨j, hj, by simpa [hj] using e⟩
  · rintro ⟨j, hj, e⟩
    exact ⟨j, hj, by simpa [hj] using e⟩
theorem setS_sorted (l : List ByteArray) : ((setS l).map toL).Pairwise (· < ·) := by
  rw [map_toL_setS]
  have hs := List.pairwise_mergeSort (le := fun x y : List UInt8 => decide (x ≤ y)) (by intro a b c; simp; exact fun h1 h2 => List.le_trans h1 h2) (by intro a b; simp; exact List.le_total a b) (l.map toL)
  unfold Go.Lib.compact
  revert hs
  generalize ((l.map toL).mergeSort fun x y => decide (x ≤ y)) = s
  intro hs
  refine cut_sorted (· < ·) (· ≤ ·) (fun a b c => List.le_trans) (fun a b h hne => ?_) (fun a b c => List.lt_of_le_of_lt) s.toArray (fun i j hij hj => ?_) s.length (by simp)
  · rcases List.le_iff_lt_or_eq.1 h with h | h
    · exact h
    · exact absurd h hne
  · simp at hj
    rcases Nat.lt_or_ge i j with h | h
    · have := List.pairwise_iff_getElem.1 hs i j (by omega) hj h
      simpa [hj, show i < s.length by omega] using this
    · obtain rfl : i = j := by omega
      exact List.le_refl _
theorem setS_ext {l l' : List ByteArray} (h : ∀ x, x ∈ l ↔ x ∈ l') : setS l = setS l' := by
  have e : (setS l).map toL = (setS l').map toL := by
    have n1 : ((setS l).map toL).Nodup := List.Pairwise.imp (R := (· < ·)) (fun {a b} h => by rintro rfl; exact List.lt_irrefl a h) (setS_sorted l)
    have n2 : ((setS l').map toL).Nodup := List.Pairwise.imp (R := (· < ·)) (fun {a b} h => by rintro rfl; exact List.lt_irrefl a h) (setS_sorted l')
    refine List.Perm.eq_of_pairwise (le := (· < ·)) ?_ (setS_sorted l) (setS_sorted l') ((List.perm_ext_iff_of_nodup n1 n2).2 fun x => ?_)
    · intro a b _ _ h1 h2
      exact absurd (List.lt_trans h1 h2) (List.lt_irrefl a)
    · rw [List.mem_map, List.mem_map]
      constructor
      · rintro ⟨y, hy, rfl⟩; exact ⟨y, mem_setS.2 ((h y).1 (mem_setS.1 hy)), rfl⟩
      · rintro ⟨y, hy, rfl⟩; exact ⟨y, mem_setS.2 ((h y).2 (mem_setS.1 hy)), rfl⟩
  have := congrArg (List.map ofL) e
  rw [List.map_map, List.map_map] at this
  have e2 : (ofL ∘ toL) = (id : ByteArray → ByteArray) := by funext x; simp [ofL_toL]
  simpa [e2] using this
theorem setS_len (l : List ByteArray) : (setS l).length ≤ l.length := by
  have := compactS_len (sortS l)
  rw [sortS_len] at this
  exact this
end Go.Proofs.YtoekfmdcplphmaaGreat.H
namespace Go.Proofs.YtoekfmdcplphmaaGreat.H
open Go.RowKit Go.Proofs.YtoekfmdcplphmaaGreatW.PrintWords
/-- no longer than the model's longest text -/
def bStr (s : ByteArray) : Prop := s.size ≤ 9223372036854775807
/-- What an argument of a type holds, read as the kind kd; B: how long its texts are. -/
structure Opens {α : Type} (P : Program) (t : TypeId) (kd : Kd α) (B : α → Prop) : Prop where
  size : P.cellsOf t = kd.sz
  opened : ∀ {H : Type} {enc : TypeId × Value → H} {w : World} {base : Nat} {sp : Nat → Bool} {held : Bool} {fuel : Nat} {cs : List Value} {x : DataW H × List MemPlace},
    DataW.trod enc P w base sp held fuel t cs = some x → ∃ a, kd.K w a cs ∧ B a
theorem Opens.as {α : Type} {P : Program} {t : TypeId} {kd : Kd α} {B B' : α → Prop} (h : Opens P t kd B) (hB : ∀ a, B a → B' a) : Opens P t kd B' :=
  ⟨h.size, fun hx => by obtain ⟨a, ha, hb⟩ := h.opened hx; exact ⟨a, ha, hB a hb⟩⟩
theorem opens_bool {P : Program} {t : TypeId} (ht : P.underlying t = some .bool) (hs : P.cellsOf t = 1) : Opens P t Kd.bool (fun _ => True) :=
  ⟨hs, fun h => by obtain ⟨b, rfl, _⟩ := DataW.trod_bool ht h; exact ⟨b, rfl, trivial⟩⟩
theorem opens_int {P : Program} {t : TypeId} {k : IntKind} (ht : P.underlying t = some (.int k)) (hs : P.cellsOf t = 1) : Opens P t (Kd.int k) (fun _ => True) :=
  ⟨hs, fun h => by obtain ⟨b, rfl, _⟩ := DataW.trod_int ht h; exact ⟨b, rfl, trivial⟩⟩
theorem opens_string {P : Program} {t : TypeId} (ht : P.underlying t = some .string) (hs : P.cellsOf t = 1) : Opens P t Kd.string bStr :=
  ⟨hs, fun h => by obtain ⟨b, rfl, _, hb⟩ := DataW.trod_string ht h; exact ⟨b, rfl, hb⟩⟩
theorem list_of {α : Type} (p : Nat → α → Prop) : ∀ n : Nat, (∀ i, i < n → ∃ y, p i y) → ∃ l : List α, l.length = n ∧ ∀ i y, l[i]? = some y → p i y
  | 0, _ => ⟨[], rfl, fun i y h => by simp at h⟩
  | n + 1, h => by
    obtain ⟨l, hl, hp⟩ := list_of p n (fun i hi => h i (by omega))
    obtain ⟨y, hy⟩ := h n (by omega)
    refine ⟨l ++ [y], by simp [hl], fun i z hz => ?_⟩
    rcases Nat.lt_trichotomy i n with hi | rfl | hi
    · rw [List.getElem?_append_left (by omega)] at hz
      exact hp i z hz
    · rw [List.getElem?_append_right (by omega), hl, Nat.sub_self] at hz
      simp at hz
      subst hz
      exact hy
    · rw [List.getElem?_eq_none (by simp [hl]; omega)] at hz
      simp at hz
theorem addr_add_add (a : Addr) (i j : Nat) : (a.add i).add j = a.add (i + j) := by
  unfold Addr.add
  by_cases hi : i = 0 <;> by_cases hj : j = 0 <;> simp [hi, hj, Nat.add_assoc]
theorem opens_slice {α : Type} {P : Program} {t e : TypeId} {kd : Kd α} {B : α → Prop} (ht : P.underlying t = some (.slice e)) (hs : P.cellsOf t = 1) (he : Opens P e kd B) (q : Nat) : Opens P t (Kd.slice q kd) (fun l => l.length ≤ 9223372036854775807 ∧ ∀ y ∈ l, B y) := by
  refine ⟨hs, fun {H enc w base sp held fuel cs x} h => ?_⟩
  rcases DataW.trod_slice ht h with ⟨rfl, _⟩ | ⟨a, len, cap, elems, rest, n, _, rfl, _, _, hl, hm, hlen, hel, _⟩
  · exact ⟨[], ⟨none, 0, rfl, Nat.le_refl _, rfl, by simp, fun h => absurd h (by simp)⟩, by simp, by simp⟩
  · obtain ⟨l, hll, hp⟩ := list_of (fun i y => B y ∧ ∃ c, c.length = kd.sz ∧ kd.K w y c ∧ ∀ j u, c[j]? = some u → w.cell? (a.add (i * kd.sz + j)) = some u) len (fun i hi => by
      have h1 := hel i hi
      rw [List.getElem?_eq_getElem (by omega)] at h1
      obtain ⟨cs', h2, h3⟩ := Option.bind_eq_some_iff.1 h1
      obtain ⟨y, hy, hby⟩ := he.opened h3
      obtain ⟨_, h4, h5⟩ := World.cells?_some h2
      refine ⟨y, hby, cs', by rw [h4, he.size], hy, fun j u hu => ?_⟩
      have hj : j < P.cellsOf e := by rw [← h4]; exact (List.getElem?_eq_some_iff.1 hu).1
      rw [← addr_add_add, ← he.size, h5 j hj, hu])
    subst hll
    refine ⟨l, ⟨some a, cap, rfl, hl, rfl, Nat.le_trans hl (Nat.le_trans hm (by decide)), fun _ => ⟨a, rfl, fun j p hj => (hp j p hj).2⟩⟩, Nat.le_trans hl (Nat.le_trans hm (by decide)), fun y hy => ?_⟩
    obtain ⟨i, hi, rfl⟩ := List.mem_iff_getElem.1 hy
    exact (hp i _ (List.getElem?_eq_getElem hi)).1
theorem opens_iso {α β : Type} {P : Program} {t : TypeId} {kd : Kd α} {B : α → Prop} (h : Opens P t kd B) (f : β → α) (hf : ∀ b, ∃ a, f a = b) : Opens P t (Kd.iso kd f) (fun b => B (f b)) :=
  ⟨h.size, fun hx => by obtain ⟨a, ha⟩ := h.opened hx; obtain ⟨b, rfl⟩ := hf a; exact ⟨b, ha⟩⟩
/-- The fields of a struct from the offset o on. -/
structure OpensL {α : Type} (P : Program) (fs : List Field) (o : Nat) (kd : Kd α) (B : α → Prop) : Prop where
  opened : ∀ {H : Type} {enc : TypeId × Value → H} {w : World} {base : Nat} {sp : Nat → Bool} {held : Bool} {fuel : Nat} (cs : List Value), cs.length = o + kd.sz →
    (∀ f ∈ fs, ∃ x, DataW.trod enc P w base sp held fuel f.type ((cs.drop f.offset).take (P.cellsOf f.type)) = some x) → ∃ a, kd.K w a (cs.drop o) ∧ B a
theorem opensL_one {α : Type} {P : Program} {f : Field} {o : Nat} {kd : Kd α} {B : α → Prop} (ho : f.offset = o) (h : Opens P f.type kd B) : OpensL P [f] o kd B := by
  refine ⟨fun {H enc w base sp held fuel} cs hcs hf => ?_⟩
  obtain ⟨x, hx⟩ := hf f (by simp)
  obtain ⟨a, ha, hb⟩ := h.opened hx
  rw [ho, h.size, List.take_of_length_le (by simp [hcs])] at ha
  exact ⟨a, ha, hb⟩
theorem opensL_cons {α β : Type} {P : Program} {f : Field} {fs : List Field} {o : Nat} {kd : Kd α} {kd' : Kd β} {B : α → Prop} {B' : β → Prop} (ho : f.offset = o) (h : Opens P f.type kd B) (hr : OpensL P fs (o + kd.sz) kd' B') : OpensL P (f :: fs) o (Kd.pair kd kd') (fun p => B p.1 ∧ B' p.2) := by
  refine ⟨fun {H enc w base sp held fuel} cs hcs hf => ?_⟩
  obtain ⟨x, hx⟩ := hf f (by simp)
  obtain ⟨a, ha, hba⟩ := h.opened hx
  have hcs' : cs.length = o + kd.sz + kd'.sz := by rw [hcs]; show o + (kd.sz + kd'.sz) = _; omega
  obtain ⟨b, hb, hbb⟩ := hr.opened cs hcs' (fun g hg => hf g (by simp [hg]))
  rw [ho, h.size] at ha
  refine ⟨(a, b), ⟨(cs.drop o).take kd.sz, (cs.drop (o + kd.sz)), ?_, ha, hb⟩, hba, hbb⟩
  rw [← List.drop_drop, List.take_append_drop]
theorem opens_struct {α : Type} {P : Program} {t : TypeId} {fs : List Field} {kd : Kd α} {B : α → Prop} (ht : P.underlying t = some (.struct ⟨fs⟩)) (hs : P.cellsOf t = kd.sz) (h : OpensL P fs 0 kd B) : Opens P t kd B := by
  refine ⟨hs, fun {H enc w base sp held fuel cs x} hx => ?_⟩
  obtain ⟨xs, n, _, _, hl, hlen, hf⟩ := DataW.trod_struct ht hx
  obtain ⟨a, ha, hb⟩ := h.opened (enc := enc) (w := w) (base := base) (sp := sp) (held := held) (fuel := n) cs (by rw [hl, hs]; omega) (fun f hfm => by
    obtain ⟨i, hi, rfl⟩ := List.mem_iff_getElem.1 hfm
    have h1 := hf i fs[i] (by simp [hi])
    exact ⟨xs[i]'(by rw [hlen]; simpa using hi), by rw [h1, List.getElem?_eq_getElem]⟩)
  exact ⟨a, by simpa using ha, hb⟩
/-- an array of two numbers -/
theorem opens_arr2 {P : Program} {t e : TypeId} {k : IntKind} (ht : P.underlying t = some (.array 2 e)) (hu : P.underlying e = some (.int k)) (hs : P.cellsOf t = 2) (he : P.cellsOf e = 1) :
    Opens P t (Kd.pair (Kd.int k) (Kd.int k)) (fun p => (Lit.int k p.1).wf = true ∧ (Lit.int k p.2).wf = true) := by
  refine ⟨hs, fun {H enc w base sp held fuel cs x} hx => ?_⟩
  obtain ⟨xs, m, _, _, hl, hlen, hel⟩ := DataW.trod_array ht hx
  rw [hs] at hl
  match cs, hl with
  | [c0, c1], _ =>
    match xs, hlen with
    | [x0, x1], _ =>
      have h0 := hel 0 (by decide)
      have h1 := hel 1 (by decide)
      rw [he] at h0 h1
      obtain ⟨a, ea, _, wa⟩ := DataW.trod_int hu (show DataW.trod enc P w base sp held m e [c0] = some x0 from h0)
      obtain ⟨b, eb, _, wb⟩ := DataW.trod_int hu (show DataW.trod enc P w base sp held m e [c1] = some x1 from h1)
      cases ea; cases eb
      exact ⟨(a, b), ⟨[.int k a], [.int k b], rfl, rfl, rfl⟩, wa, wb⟩
theorem okWide_array {P : Program} {w : World} {r : Reach} {base : Nat} {t e : TypeId} {n : Nat} {v : Value} (ht : P.underlying t = some (.array n e)) (h : Value.okWide P w r base t v) : ∃ cs, v = .agg cs ∧ cs.size = P.cellsOf t := by
  simp only [Value.okWide, ht] at h
  obtain ⟨cs, h1, h2, _⟩ := h
  exact ⟨cs, h1, h2⟩
theorem opens_isoL {α β : Type} {P : Program} {fs : List Field} {o : Nat} {kd : Kd α} {B : α → Prop} (h : OpensL P fs o kd B) (f : β → α) (hf : ∀ b, ∃ a, f a = b) : OpensL P fs o (Kd.iso kd f) (fun b => B (f b)) := by
  refine ⟨fun {H enc w base sp held fuel} cs hcs hx => ?_⟩
  obtain ⟨a, ha⟩ := h.opened cs hcs hx
  obtain ⟨b, rfl⟩ := hf a
  exact ⟨b, ha⟩
/-- an argument's value, opened -/
theorem Opens.argB {α : Type} {P : Program} {t : TypeId} {kd : Kd α} {B : α → Prop} (h : Opens P t kd B) {H : Type} {enc : TypeId × Value → H} {w : World} {base : Nat} {sp : Nat → Bool} {held : Bool} {v : Value} {d : DataW H} {ps : List MemPlace}
    (hv : DataW.Trod enc P w base sp held t v d ps) : ∃ a, kd.K w a v.cells.toList ∧ B a := by
  obtain ⟨fuel, hf⟩ := hv
  exact h.opened hf
theorem Opens.arg {α : Type} {P : Program} {t : TypeId} {kd : Kd α} {B : α → Prop} (h : Opens P t kd B) {H : Type} {enc : TypeId × Value → H} {w : World} {base : Nat} {sp : Nat → Bool} {held : Bool} {v : Value} {d : DataW H} {ps : List MemPlace}
    (hv : DataW.Trod enc P w base sp held t v d ps) : ∃ a, kd.K w a v.cells.toList := by
  obtain ⟨a, ha, _⟩ := h.argB hv
  exact ⟨a, ha⟩
/-- An argument's row is no longer than its weight allows. -/
theorem sized_row {H : Type} {enc : TypeId × Value → H} {P : Program} {W : World} {base : Nat} {spare : Nat → Bool} {held : Bool} {t e : TypeId} {a : Option Addr} {len cap : Nat} {d : DataW H} {ps : List MemPlace} {ts : List TypeId} {ds : List (DataW H)} {j : Nat}
    (hsz : (DataW.weightsEach P ts ds).all (· ≤ reachBytes) = true) (ht : ts[j]? = some t) (hd : ds[j]? = some d) (hu : P.underlying t = some (.slice e)) {B : Nat} (hB : P.bytesOf e = B)
    (h : DataW.Trod enc P W base spare held t (.slice a len cap) d ps) : len * B ≤ 140737488351232 := by
  obtain ⟨fuel, hf⟩ := h
  rcases DataW.trod_slice hu hf with ⟨hcs, _⟩ | ⟨x, l, c, elems, rest, n, _, hcs, hx, _, hl, _, hlen, _⟩
  · simp [Value.cells] at hcs
    obtain ⟨rfl, rfl, rfl⟩ := hcs
    simp
  · simp [Value.cells] at hcs
    obtain ⟨rfl, rfl, rfl⟩ := hcs
    obtain ⟨rfl, _⟩ := Prod.mk.inj hx
    have z := sized_slice hsz ht hd hu
    rw [hB, List.length_map, List.length_map, hlen] at z
    exact Nat.le_trans (Nat.mul_le_mul_right _ (Nat.le_add_right _ _)) z
def bVal (x : Val) : Prop := True ∧ bStr (x.sym) ∧ True
theorem opens_Val : Opens Tryz.prog 36 k36 bVal :=
  Opens.as (opens_struct Tryz.underlying36 (by kernel_rfl) (opens_isoL (opensL_cons rfl (opens_bool (by kernel_rfl) (by kernel_rfl)) (opensL_cons rfl (opens_string (by kernel_rfl) (by kernel_rfl)) (opensL_one rfl (opens_int (by kernel_rfl) (by kernel_rfl))))) _ (fun b => ⟨⟨b.1, b.2.1, b.2.2⟩, rfl⟩))) (fun _ h => h)
def bFact (x : Fact) : Prop := bStr (x.pred) ∧ (x.args.length ≤ 9223372036854775807 ∧ ∀ y ∈ x.args, bVal (y))
theorem opens_Fact : Opens Tryz.prog 26 k26 bFact :=
  Opens.as (opens_struct Tryz.underlying26 (by kernel_rfl) (opens_isoL (opensL_cons rfl (opens_string (by kernel_rfl) (by kernel_rfl)) (opensL_one rfl (opens_slice (by kernel_rfl) (by kernel_rfl) opens_Val 36))) _ (fun b => ⟨⟨b.1, b.2⟩, rfl⟩))) (fun _ h => h)
def bStmt (x : Stmt) : Prop := True ∧ bStr (x.x) ∧ bStr (x.y) ∧ bStr (x.z) ∧ bStr (x.op) ∧ True ∧ True ∧ True
theorem opens_Stmt : Opens Tryz.prog 34 k34 bStmt :=
  Opens.as (opens_struct Tryz.underlying34 (by kernel_rfl) (opens_isoL (opensL_cons rfl (opens_int (by kernel_rfl) (by kernel_rfl)) (opensL_cons rfl (opens_string (by kernel_rfl) (by kernel_rfl)) (opensL_cons rfl (opens_string (by kernel_rfl) (by kernel_rfl)) (opensL_cons rfl (opens_string (by kernel_rfl) (by kernel_rfl)) (opensL_cons rfl (opens_string (by kernel_rfl) (by kernel_rfl)) (opensL_cons rfl (opens_int (by kernel_rfl) (by kernel_rfl)) (opensL_cons rfl (opens_int (by kernel_rfl) (by kernel_rfl)) (opensL_one rfl (opens_int (by kernel_rfl) (by kernel_rfl)))))))))) _ (fun b => ⟨⟨b.1, b.2.1, b.2.2.1, b.2.2.2.1, b.2.2.2.2.1, b.2.2.2.2.2.1, b.2.2.2.2.2.2.1, b.2.2.2.2.2.2.2⟩, rfl⟩))) (fun _ h => h)
end Go.Proofs.YtoekfmdcplphmaaGreat.H
/- an argument opened, and how long its rows and texts are -/
namespace Go.Proofs.YtoekfmdcplphmaaGreat.H
open Go.RowKit Go.Proofs.YtoekfmdcplphmaaGreatW.PrintWords
def bWStr (s : ByteArray) : Prop := s.size ≤ 140737488351232
def fits {H : Type} (P : Program) (t : TypeId) (d : DataW H) : Prop := ∀ n ∈ d.weights P t, n ≤ reachBytes
structure OpensW {α : Type} (P : Program) (t : TypeId) (kd : Kd α) (B : α → Prop) : Prop where
  size : P.cellsOf t = kd.sz
  opened : ∀ {H : Type} {enc : TypeId × Value → H} {w : World} {base : Nat} {sp : Nat → Bool} {held : Bool} {fuel : Nat} {cs : List Value} {x : DataW H × List MemPlace},
    DataW.trod enc P w base sp held fuel t cs = some x → ∃ a, kd.K w a cs ∧ (fits P t x.1 → B a)
theorem OpensW.as {α : Type} {P : Program} {t : TypeId} {kd : Kd α} {B B' : α → Prop} (h : OpensW P t kd B) (hB : ∀ a, B a → B' a) : OpensW P t kd B' :=
  ⟨h.size, fun hx => by obtain ⟨a, ha, hb⟩ := h.opened hx; exact ⟨a, ha, fun hw => hB a (hb hw)⟩⟩
theorem opensW_bool {P : Program} {t : TypeId} (ht : P.underlying t = some .bool) (hs : P.cellsOf t = 1) : OpensW P t Kd.bool (fun _ => True) :=
  ⟨hs, fun h => by obtain ⟨b, rfl, _⟩ := DataW.trod_bool ht h; exact ⟨b, rfl, fun _ => trivial⟩⟩
theorem opensW_int {P : Program} {t : TypeId} {k : IntKind} (ht : P.underlying t = some (.int k)) (hs : P.cellsOf t = 1) : OpensW P t (Kd.int k) (fun _ => True) :=
  ⟨hs, fun h => by obtain ⟨b, rfl, _⟩ := DataW.trod_int ht h; exact ⟨b, rfl, fun _ => trivial⟩⟩
theorem opensW_string {P : Program} {t : TypeId} (ht : P.underlying t = some .string) (hs : P.cellsOf t = 1) : OpensW P t Kd.string bWStr :=
  ⟨hs, fun h => by
    obtain ⟨b, rfl, rfl, hb⟩ := DataW.trod_string ht h
    refine ⟨b, rfl, fun hw => ?_⟩
    have := hw b.data.toList.length (by simp [DataW.weights])
    rw [Array.length_toList] at this
    exact this⟩
theorem weightsAll_mem {H : Type} {P : Program} {e : TypeId} {n : Nat} : ∀ {ds : List (DataW H)} {d : DataW H}, d ∈ ds → n ∈ d.weights P e → n ∈ DataW.weightsAll P e ds
  | [], d, h, _ => by simp at h
  | x :: r, d, h, hn => by
    rw [DataW.weightsAll, List.mem_append]
    rcases List.mem_cons.1 h with rfl | h
    · exact .inl hn
    · exact .inr (weightsAll_mem h hn)
theorem opensW_slice {α : Type} {P : Program} {t e : TypeId} {kd : Kd α} {B : α → Prop} (ht : P.underlying t = some (.slice e)) (hs : P.cellsOf t = 1) (he : OpensW P e kd B) (q : Nat) {N : Nat} (hN : P.bytesOf e = N) : OpensW P t (Kd.slice q kd) (fun l => l.length * N ≤ 140737488351232 ∧ ∀ y ∈ l, B y) := by
  refine ⟨hs, fun {H enc w base sp held fuel cs x} h => ?_⟩
  rcases DataW.trod_slice ht h with ⟨rfl, rfl⟩ | ⟨a, len, cap, elems, rest, n, _, rfl, rfl, _, hl, hm, hlen, hel, _⟩
  · exact ⟨[], ⟨none, 0, rfl, Nat.le_refl _, rfl, by simp, fun h => absurd h (by simp)⟩, fun _ => ⟨by simp, by simp⟩⟩
  · obtain ⟨l, hll, hp⟩ := list_of (fun i y => (∀ d, elems[i]? = some d → fits P e d.1 → B y) ∧ ∃ c, c.length = kd.sz ∧ kd.K w y c ∧ ∀ j u, c[j]? = some u → w.cell? (a.add (i * kd.sz + j)) = some u) len (fun i hi => by
      have h1 := hel i hi
      rw [List.getElem?_eq_getElem (by omega)] at h1
      obtain ⟨cs', h2, h3⟩ := Option.bind_eq_some_iff.1 h1
      obtain ⟨y, hy, hby⟩ := he.opened h3
      obtain ⟨_, h4, h5⟩ := World.cells?_some h2
      refine ⟨y, fun d hd hw => hby ?_, cs', by rw [h4, he.size], hy, fun j u hu => ?_⟩
      · rw [List.getElem?_eq_getElem (by omega)] at hd
        rw [Option.some.inj hd]; exact hw
      · have hj : j < P.cellsOf e := by rw [← h4]; exact (List.getElem?_eq_some_iff.1 hu).1
        rw [← addr_add_add, ← he.size, h5 j hj, hu])
    subst hll
    refine ⟨l, ⟨some a, cap, rfl, hl, rfl, Nat.le_trans hl (Nat.le_trans hm (by decide)), fun _ => ⟨a, rfl, fun j p hj => (hp j p hj).2⟩⟩, fun hw => ⟨?_, fun y hy => ?_⟩⟩
    · have := hw _ (by simp only [DataW.weights, ht]; exact List.mem_cons_self)
      rw [List.length_map, List.length_map, hlen, hN] at this
      exact Nat.le_trans (Nat.mul_le_mul_right _ (Nat.le_add_right _ _)) this
    · obtain ⟨i, hi, rfl⟩ := List.mem_iff_getElem.1 hy
      have hie : i < elems.length := by omega
      refine (hp i _ (List.getElem?_eq_getElem hi)).1 elems[i] (List.getElem?_eq_getElem hie) (fun n hn => hw n ?_)
      simp only [DataW.weights, ht]
      exact List.mem_cons_of_mem _ (List.mem_append_left _ (weightsAll_mem (List.mem_map.2 ⟨elems[i], List.getElem_mem hie, rfl⟩) hn))
structure OpensLW {α : Type} (P : Program) (fs : List Field) (o : Nat) (kd : Kd α) (B : α → Prop) : Prop where
  opened : ∀ {H : Type} {enc : TypeId × Value → H} {w : World} {base : Nat} {sp : Nat → Bool} {held : Bool} {fuel : Nat} (F : Prop) (cs : List Value), cs.length = o + kd.sz →
    (∀ f ∈ fs, ∃ x, DataW.trod enc P w base sp held fuel f.type ((cs.drop f.offset).take (P.cellsOf f.type)) = some x ∧ (F → fits P f.type x.1)) → ∃ a, kd.K w a (cs.drop o) ∧ (F → B a)
theorem opensLW_one {α : Type} {P : Program} {f : Field} {o : Nat} {kd : Kd α} {B : α → Prop} (ho : f.offset = o) (h : OpensW P f.type kd B) : OpensLW P [f] o kd B := by
  refine ⟨fun {H enc w base sp held fuel} F cs hcs hf => ?_⟩
  obtain ⟨x, hx, hF⟩ := hf f (by simp)
  obtain ⟨a, ha, hb⟩ := h.opened hx
  rw [ho, h.size, List.take_of_length_le (by simp [hcs])] at ha
  exact ⟨a, ha, fun q => hb (hF q)⟩
theorem opensLW_cons {α β : Type} {P : Program} {f : Field} {fs : List Field} {o : Nat} {kd : Kd α} {kd' : Kd β} {B : α → Prop} {B' : β → Prop} (ho : f.offset = o) (h : OpensW P f.type kd B) (hr : OpensLW P fs (o + kd.sz) kd' B') : OpensLW P (f :: fs) o (Kd.pair kd kd') (fun p => B p.1 ∧ B' p.2) := by
  refine ⟨fun {H enc w base sp held fuel} F cs hcs hf => ?_⟩
  obtain ⟨x, hx, hF⟩ := hf f (by simp)
  obtain ⟨a, ha, hba⟩ := h.opened hx
  have hcs' : cs.length = o + kd.sz + kd'.sz := by rw [hcs]; show o + (kd.sz + kd'.sz) = _; omega
  obtain ⟨b, hb, hbb⟩ := hr.opened F cs hcs' (fun g hg => hf g (by simp [hg]))
  rw [ho, h.size] at ha
  refine ⟨(a, b), ⟨(cs.drop o).take kd.sz, (cs.drop (o + kd.sz)), ?_, ha, hb⟩, fun q => ⟨hba (hF q), hbb q⟩⟩
  rw [← List.drop_drop, List.take_append_drop]
theorem opensW_struct {α : Type} {P : Program} {t : TypeId} {fs : List Field} {kd : Kd α} {B : α → Prop} (ht : P.underlying t = some (.struct ⟨fs⟩)) (hs : P.cellsOf t = kd.sz) (h : OpensLW P fs 0 kd B) : OpensW P t kd B := by
  refine ⟨hs, fun {H enc w base sp held fuel cs x} hx => ?_⟩
  obtain ⟨xs, n, _, rfl, hl, hlen, hf⟩ := DataW.trod_struct ht hx
  obtain ⟨a, ha, hb⟩ := h.opened (enc := enc) (w := w) (base := base) (sp := sp) (held := held) (fuel := n) (fits P t (.agg (xs.map (·.1)))) cs (by rw [hl, hs]; omega) (fun f hfm => by
    obtain ⟨i, hi, rfl⟩ := List.mem_iff_getElem.1 hfm
    have h1 := hf i fs[i] (by simp [hi])
    have hix : i < xs.length := by rw [hlen]; simpa using hi
    refine ⟨xs[i], by rw [h1, List.getElem?_eq_getElem], fun hw n hn => hw n ?_⟩
    simp only [DataW.weights, ht]
    exact DataW.weights_mem_each (j := i) (by simp [hi]) (by rw [List.getElem?_map, List.getElem?_eq_getElem hix]; rfl) n hn)
  exact ⟨a, by simpa using ha, hb⟩
theorem opensW_isoL {α β : Type} {P : Program} {fs : List Field} {o : Nat} {kd : Kd α} {B : α → Prop} (h : OpensLW P fs o kd B) (f : β → α) (hf : ∀ b, ∃ a, f a = b) : OpensLW P fs o (Kd.iso kd f) (fun b => B (f b)) := by
  refine ⟨fun {H enc w base sp held fuel} F cs hcs hx => ?_⟩
  obtain ⟨a, ha⟩ := h.opened F cs hcs hx
  obtain ⟨b, rfl⟩ := hf a
  exact ⟨b, ha⟩
/-- an argument's value, opened -/
theorem OpensW.argB {α : Type} {P : Program} {t : TypeId} {kd : Kd α} {B : α → Prop} (h : OpensW P t kd B) {H : Type} {enc : TypeId × Value → H} {w : World} {base : Nat} {sp : Nat → Bool} {held : Bool} {v : Value} {d : DataW H} {ps : List MemPlace} {ts : List TypeId} {ds : List (DataW H)} {j : Nat}
    (hsz : (DataW.weightsEach P ts ds).all (· ≤ reachBytes) = true) (ht : ts[j]? = some t) (hd : ds[j]? = some d) (hv : DataW.Trod enc P w base sp held t v d ps) : ∃ a, kd.K w a v.cells.toList ∧ B a := by
  obtain ⟨fuel, hf⟩ := hv
  obtain ⟨a, ha, hb⟩ := h.opened hf
  refine ⟨a, ha, hb (fun n hn => ?_)⟩
  have := List.all_eq_true.1 hsz n (DataW.weights_mem_each ht hd n hn)
  simpa using this
def bWVal (x : Val) : Prop := True ∧ bWStr (x.sym) ∧ True
theorem opensW_Val : OpensW Tryz.prog 36 k36 bWVal :=
  OpensW.as (opensW_struct Tryz.underlying36 (by kernel_rfl) (opensW_isoL (opensLW_cons rfl (opensW_bool (by kernel_rfl) (by kernel_rfl)) (opensLW_cons rfl (opensW_string (by kernel_rfl) (by kernel_rfl)) (opensLW_one rfl (opensW_int (by kernel_rfl) (by kernel_rfl))))) _ (fun b => ⟨⟨b.1, b.2.1, b.2.2⟩, rfl⟩))) (fun _ h => h)
def bWFact (x : Fact) : Prop := bWStr (x.pred) ∧ (x.args.length * 32 ≤ 140737488351232 ∧ ∀ y ∈ x.args, bWVal (y))
theorem opensW_Fact : OpensW Tryz.prog 26 k26 bWFact :=
  OpensW.as (opensW_struct Tryz.underlying26 (by kernel_rfl) (opensW_isoL (opensLW_cons rfl (opensW_string (by kernel_rfl) (by kernel_rfl)) (opensLW_one rfl (opensW_slice (by kernel_rfl) (by kernel_rfl) opensW_Val 36 (by kernel_rfl)))) _ (fun b => ⟨⟨b.1, b.2⟩, rfl⟩))) (fun _ h => h)
def bWStmt (x : Stmt) : Prop := True ∧ bWStr (x.x) ∧ bWStr (x.y) ∧ bWStr (x.z) ∧ bWStr (x.op) ∧ True ∧ True ∧ True
theorem opensW_Stmt : OpensW Tryz.prog 34 k34 bWStmt :=
  OpensW.as (opensW_struct Tryz.underlying34 (by kernel_rfl) (opensW_isoL (opensLW_cons rfl (opensW_int (by kernel_rfl) (by kernel_rfl)) (opensLW_cons rfl (opensW_string (by kernel_rfl) (by kernel_rfl)) (opensLW_cons rfl (opensW_string (by kernel_rfl) (by kernel_rfl)) (opensLW_cons rfl (opensW_string (by kernel_rfl) (by kernel_rfl)) (opensLW_cons rfl (opensW_string (by kernel_rfl) (by kernel_rfl)) (opensLW_cons rfl (opensW_int (by kernel_rfl) (by kernel_rfl)) (opensLW_cons rfl (opensW_int (by kernel_rfl) (by kernel_rfl)) (opensLW_one rfl (opensW_int (by kernel_rfl) (by kernel_rfl)))))))))) _ (fun b => ⟨⟨b.1, b.2.1, b.2.2.1, b.2.2.2.1, b.2.2.2.2.1, b.2.2.2.2.2.1, b.2.2.2.2.2.2.1, b.2.2.2.2.2.2.2⟩, rfl⟩))) (fun _ h => h)
end Go.Proofs.YtoekfmdcplphmaaGreat.H
/- a flow's facts are in order, each once; their sizes -/
namespace Go.Proofs.YtoekfmdcplphmaaGreat.H
open Go.RowKit Go.Proofs.YtoekfmdcplphmaaGreatW.PrintWords
theorem dd_strict : ∀ {l : List Fact}, bareL l = true → l.Pairwise (fun x y => cmpF x y ≤ 0) → (dd l).Pairwise fun x y => cmpF x y < 0
  | [], _, _ => List.Pairwise.nil
  | [a], _, _ => List.pairwise_singleton _ _
  | a :: b :: l, hb, h => by
    have hbb := hb
    unfold bareL at hbb
    rw [List.all_cons, List.all_cons, Bool.and_eq_true, Bool.and_eq_true] at hbb
    have h2 := List.pairwise_cons.1 h
    have ih := dd_strict (l := b :: l) (by unfold bareL; rw [List.all_cons, hbb.2.1, hbb.2.2]; rfl) h2.2
    rw [dd]
    split
    · exact ih
    · rename_i hne
      refine List.pairwise_cons.2 ⟨fun x hx => ?_, ih⟩
      have hab : cmpF a b < 0 := by
        have q := h2.1 b (by simp)
        have q2 : cmpF a b ≠ 0 := fun e => hne ((cmpF_zero hbb.1 hbb.2.1).1 e)
        omega
      rcases List.mem_cons.1 (mem_dd.1 hx) with rfl | hx
      · exact hab
      · exact ordF.lt' hab ((List.pairwise_cons.1 h2.2).1 x hx)
theorem factsL_bare (s : List Stmt) : bareL (factsL s) = true := by
  unfold bareL
  rw [List.all_eq_true]
  exact fun f hf => (factsL_ok hf).1
theorem ofF_strict (s : List Stmt) : (ofF s).Pairwise fun x y => cmpF x y < 0 := dd_strict (bareL_sort (factsL_bare s)) (sortF_pw _)
theorem ofF_nodup (s : List Stmt) : (ofF s).Nodup := (ofF_strict s).imp fun {a b} h => by rintro rfl; have := ordF.self a; omega
theorem ok_facts {s : List Stmt} (hB : ∀ st ∈ s, bWStmt st) {f : Fact} (h : f ∈ factsL s) : okF f := by
  obtain ⟨n, h0, h1, h⟩ := mem_factsL.1 h
  have hst : at_ s n ∈ s := by
    unfold at_ rd_T34
    rw [List.getD_eq_getElem?_getD, List.getElem?_eq_getElem (by omega)]
    exact List.getElem_mem _
  have hb := hB _ hst
  have hx : (at_ s n).x.size ≤ 140737488351232 ∧ (at_ s n).y.size ≤ 140737488351232 ∧ (at_ s n).z.size ≤ 140737488351232 := ⟨hb.2.1, hb.2.2.1, hb.2.2.2.1⟩
  have hnum : ∀ m : Int, okV (numV m) := fun m => by unfold okV; simp [ByteArray.size]
  have hsym : ∀ t : ByteArray, t.size ≤ 140737488351232 → okV (symV t) := fun t ht => by unfold okV; show t.size ≤ _; omega
  have hu : ∀ y ∈ usesS (at_ s n), y.size ≤ 140737488351232 := fun y hy => by
    unfold usesS at hy
    split at hy
    · have hm : y ∈ [(at_ s n).y, (at_ s n).z] := mem_setS.1 hy
      simp at hm
      rcases hm with rfl | rfl
      · exact hx.2.1
      · exact hx.2.2
    split at hy
    · rw [List.mem_singleton] at hy; subst hy; exact hx.2.1
    · simp at hy
  have hd : (defN (at_ s n)).1.size ≤ 140737488351232 := by
    unfold defN
    split
    · exact hx.1
    · simp [ByteArray.size]
  rcases mem_oneL.1 h with rfl | ⟨m', hm, rfl⟩ | ⟨y, hy, rfl⟩ | ⟨k, y, hy, rfl⟩ | ⟨h1, rfl⟩ | ⟨h1, k, rfl⟩ | ⟨h1, k, y, hy, rfl⟩
  · exact ⟨by simp [ByteArray.size], by simp, fun v hv => by simp at hv; subst hv; exact hnum n⟩
  · exact ⟨by simp [ByteArray.size], by simp, fun v hv => by simp at hv; rcases hv with rfl | rfl <;> exact hnum _⟩
  · exact ⟨by simp [ByteArray.size], by simp, fun v hv => by simp at hv; rcases hv with rfl | rfl; exact hnum n; exact hsym y (hu y hy)⟩
  · exact ⟨by simp [ByteArray.size], by simp, fun v hv => by simp at hv; rcases hv with rfl | rfl; exact hnum n; exact hsym y (hu y hy)⟩
  · exact ⟨by simp [ByteArray.size], by simp, fun v hv => by simp at hv; rcases hv with rfl | rfl; exact hnum n; exact hsym _ hd⟩
  · exact ⟨by simp [ByteArray.size], by simp, fun v hv => by simp at hv; rcases hv with rfl | rfl; exact hnum n; exact hsym _ hd⟩
  · exact ⟨by simp [ByteArray.size], by simp, fun v hv => by simp at hv; rcases hv with rfl | rfl | rfl; exact hnum n; exact hsym _ hd; exact hsym y (hu y hy)⟩
end Go.Proofs.YtoekfmdcplphmaaGreat.H
namespace Go.Proofs.YtoekfmdcplphmaaGreat.H
open Go.RowKit Go.Proofs.YtoekfmdcplphmaaGreatW.PrintWords Go.Proofs.YtoekfmdcplphmaaGreatW.PrintLast Go.Proofs.YtoekfmdcplphmaaGreatW.PrintMore
attribute [local go_sem] max2_int min2_int max_two min_two max_three min_three max_four min_four
def lambrequinref03_Bare.f (a0_0 : Bool) (a0_1 : ByteArray) (a0_2 : Int) : Option (Bool × ByteArray × Int) := if a0_0 = true then (some (true, a0_1, 0)) else (some (false, (⟨#[]⟩ : ByteArray), a0_2))
set_option maxHeartbeats 8000000 in
set_option maxRecDepth 100000 in
theorem lambrequinref03_Bare.calls (a0_0 : Bool) (a0_1 : ByteArray) (a0_2 : Int) (r1 : Bool) (r2 : ByteArray) (r3 : Int) (w : World) (h : lambrequinref03_Bare.f a0_0 a0_1 a0_2 = some (r1, r2, r3)) :
  Calls Tryz.prog 54 #[.agg #[.bool a0_0, .string a0_1, .int .i64 a0_2]] w fun e w' => e = .returned (.agg #[.bool r1, .string r2, .int .i64 r3]) ∧ Below w.heap.size w w' := by
 have hu36 := Tryz.underlying36
 have HB := am (Below.refl w.heap.size w)
 have H : (if a0_0 = true then (some (true, a0_1, 0)) else (some (false, (⟨#[]⟩ : ByteArray), a0_2))) = some (r1, r2, r3) := h
 clear h
 by_cases c2 : a0_0 = true
 ·subst c2
  have H1 : (some (true, a0_1, 0)) = some (r1, r2, r3) := by rw [if_pos rfl] at H; exact H
  clear H
  have H := H1
  clear H1
  simp only [Option.some.injEq, Prod.mk.injEq] at H
  obtain ⟨rfl, rfl, rfl⟩ := H
  go_enter Tryz.func54, Tryz.ntmps54
  go_wp2_with (first | ((with_reducible refine gate_dst (N := 1) rfl ?_); refine box_event ?hg (N := 1) ?hd (cs := #[.bool true, .string a0_1, .int .i64 a0_2]) (t := 36) ?hr ?_; (case hd => rfl); (case hg => rfl); (case hr => first | (go_simp; done) | (go_simp; rfl)); intro gb101 hg w3 hbox hb; have BK101 := am (hbox); have GW101 := am (gw_ hg HB.out); have GE101 := GW101; replace HB := am (bs_ HB.out hb); clear hb hbox hg) | ((with_reducible refine gate_dst (N := 2) rfl ?_); refine box_event ?hg (N := 2) ?hd (cs := #[.bool false, .string (⟨#[]⟩ : ByteArray), .int .i64 0]) (t := 36) ?hr ?_; (case hd => rfl); (case hg => rfl); (case hr => first | (go_simp; done) | (go_simp; rfl)); intro gb102 hg w4 hbox hb; have BK102 := am (hbox); have GW102 := am (gw_ hg HB.out); have GE102 := GW102; replace HB := am (bs_ HB.out hb); have NB101_102 := am (nb_ hg BK101.out); have NB102_101 := am NB101_102.out.symm; replace BK101 := am (bb_ BK101.out hb); clear hb hbox hg; have hnb5 := NB101_102.out; have hnc5 := NB102_101.out; obtain ⟨hcz6_0, hcz6_1, hcz6_2, hfz6_0, hfz6_1, hfz6_2⟩ := bc3 BK101.out; obtain ⟨hcz7_0, hcz7_1, hcz7_2, hfz7_0, hfz7_1, hfz7_2⟩ := bc3 BK102.out))
  refine bodyPost_ret (results_cell_row rfl _ _ gb102 36 #[.bool true, .string a0_1, .int .i64 0] (0, 0) _ rfl (by (with_reducible repeat (first | refine bN ?_ _ | refine bD ?_ | refine bA ?_ _)); exact bq3 BK102.out) Tryz.underlying36 rfl (by kernel_rfl)) rfl ?_
  exact ⟨er_, pL HB.out⟩
 replace c2 := Bool.eq_false_iff.mpr c2
 subst c2
 have H1 : (some (false, (⟨#[]⟩ : ByteArray), a0_2)) = some (r1, r2, r3) := by rw [if_neg (show ¬ (false = true) by decide)] at H; exact H
 clear H
 have H := H1
 clear H1
 simp only [Option.some.injEq, Prod.mk.injEq] at H
 obtain ⟨rfl, rfl, rfl⟩ := H
 go_enter Tryz.func54, Tryz.ntmps54
 go_wp2_with (first | ((with_reducible refine gate_dst (N := 1) rfl ?_); refine box_event ?hg (N := 1) ?hd (cs := #[.bool false, .string a0_1, .int .i64 a0_2]) (t := 36) ?hr ?_; (case hd => rfl); (case hg => rfl); (case hr => first | (go_simp; done) | (go_simp; rfl)); intro gb101 hg w8 hbox hb; have BK101 := am (hbox); have GW101 := am (gw_ hg HB.out); have GE101 := GW101; replace HB := am (bs_ HB.out hb); clear hb hbox hg) | ((with_reducible refine gate_dst (N := 2) rfl ?_); refine box_event ?hg (N := 2) ?hd (cs := #[.bool false, .string (⟨#[]⟩ : ByteArray), .int .i64 0]) (t := 36) ?hr ?_; (case hd => rfl); (case hg => rfl); (case hr => first | (go_simp; done) | (go_simp; rfl)); intro gb102 hg w9 hbox hb; have BK102 := am (hbox); have GW102 := am (gw_ hg HB.out); have GE102 := GW102; replace HB := am (bs_ HB.out hb); have NB101_102 := am (nb_ hg BK101.out); have NB102_101 := am NB101_102.out.symm; replace BK101 := am (bb_ BK101.out hb); clear hb hbox hg; have hnb10 := NB101_102.out; have hnc10 := NB102_101.out; obtain ⟨hcz11_0, hcz11_1, hcz11_2, hfz11_0, hfz11_1, hfz11_2⟩ := bc3 BK101.out; obtain ⟨hcz12_0, hcz12_1, hcz12_2, hfz12_0, hfz12_1, hfz12_2⟩ := bc3 BK102.out))
 refine bodyPost_ret (results_cell_row rfl _ _ gb102 36 #[.bool false, .string (⟨#[]⟩ : ByteArray), .int .i64 a0_2] (0, 0) _ rfl (by (with_reducible repeat (first | refine bN ?_ _ | refine bD ?_ | refine bA ?_ _)); exact bq3 BK102.out) Tryz.underlying36 rfl (by kernel_rfl)) rfl ?_
 exact ⟨er_, pL HB.out⟩
def lambrequinref03_Of.l0 : Nat → List (Val) → List (Val) → Int → Option ((List (Val)))
 | 0, _, _, _ => none
 | k + 1, x0, x3, x4 => if x4 < (x0.length : Int) then (if 0 ≤ x4 then ((lambrequinref03_Bare.f ((rd_T36 x0 x4).isSym) ((rd_T36 x0 x4).sym) ((rd_T36 x0 x4).n)).bind fun bt102 => (if x3.length < 4398046511104 then (lambrequinref03_Of.l0 k x0 (x3 ++ [(⟨bt102.1, bt102.2.1, bt102.2.2⟩ : Val)]) (wrap64 (x4 + 1))) else (none))) else (none)) else (some x3)
def lambrequinref03_Of.f (k : Nat) (l0 : List (Val)) : Option ((List (Val))) := lambrequinref03_Of.l0 k l0 ([] : List (Val)) 0
theorem lambrequinref03_Of.mono_l : ∀ k, (∀ y0 y1 y2, LeO (lambrequinref03_Of.l0 k y0 y1 y2) (lambrequinref03_Of.l0 (k + 1) y0 y1 y2))
 | 0 => fun _ _ _ r h => by simp [lambrequinref03_Of.l0] at h
 | k + 1 => by
  have ih0 := lambrequinref03_Of.mono_l k
  intro y0 y1 y2
  unfold lambrequinref03_Of.l0
  repeat' first
  | (with_reducible exact ih0 _ _ _)
  | (with_reducible exact LeO.refl _)
  | (with_reducible exact LeO.none _)
  | (with_reducible refine LeO.ite ?_ ?_)
  | (with_reducible refine LeO.bind ?_ (fun _ => ?_))
  | exact ih0 _ _ _
  | exact LeO.none _
  | refine LeO.ite ?_ ?_
  | refine LeO.bind ?_ (fun _ => ?_)
theorem lambrequinref03_Of.mono : ∀ a0 k, LeO (lambrequinref03_Of.f k a0) (lambrequinref03_Of.f (k + 1) a0) := by
 intro a0 k
 have ih0 := lambrequinref03_Of.mono_l k
 unfold lambrequinref03_Of.f
 repeat' first
   | (with_reducible exact ih0 _ _ _)
   | (with_reducible exact LeO.refl _)
   | (with_reducible exact LeO.none _)
   | (with_reducible refine LeO.ite ?_ ?_)
   | (with_reducible refine LeO.bind ?_ (fun _ => ?_))
   | exact ih0 _ _ _
   | exact LeO.none _
   | refine LeO.ite ?_ ?_
   | refine LeO.bind ?_ (fun _ => ?_)
set_option maxHeartbeats 8000000 in
set_option maxRecDepth 100000 in
theorem lambrequinref03_Of.calls (k : Nat) (A0 : Option Addr) (c0 : Nat) (l0 : List (Val)) (r : List (Val)) (w : World) (hr0 : Kd.C k36 w A0 l0.length l0) (hc0 : l0.length ≤ c0) (h : lambrequinref03_Of.f k l0 = some r) :
  Calls Tryz.prog 37 #[.slice A0 l0.length c0] w fun e w' => ∃ v0_ : Value, e = .returned (v0_) ∧ Kd.R k36 36 w' w.heap.size (fun _ => True) v0_ r ∧ Below w.heap.size w w' := by
 have hu36 := Tryz.underlying36
 have HR0 := am hr0
 have HC0 := am hc0
 clear hr0 hc0
 have HB := am (Below.refl w.heap.size w)
 have H : (lambrequinref03_Of.l0 k l0 ([] : List (Val)) 0) = some r := h
 clear h
 have H' := am H
 clear H
 go_enter Tryz.func37, Tryz.ntmps37
 go_wp2
 go_loopg [3, 4] k (fun kq v3 v4 w' => ∃ (x3_1 : List (Val)) (x4_1 : Int), v4 = .int .i64 x4_1 ∧ Aside0 (lambrequinref03_Of.l0 kq l0 x3_1 x4_1 = some r) ∧ Aside0 (kq ≤ k) ∧ Aside0 (Kd.R k36 36 w' w.heap.size (fun _ => True) v3 x3_1) ∧ Aside0 (Below w.heap.size w w'))
 case atStart => exact ⟨(([] : List (Val))), (0), rs_, H', ⟨Nat.le_refl _⟩, ⟨by first | exact Kd.R_nil _ _ _ _ _ | exact Kd.N_nil _ _ _ _ _ | exact Kd.V_nil _ _ _ _ _ | exact Kd.Q_nil _ _ _ _ _ | exact Kd.S_nil _ _ _ _ _⟩, ⟨pL HB.out⟩⟩
 case round =>
  clear H'
  obtain ⟨x3_1, x4_1, rfl, HA, HK1, HO_3, HB⟩ := hrel
  cases gk with
  | zero => exact absurd HA.out (by simp [lambrequinref03_Of.l0])
  | succ k1 =>
   have H := HA.out
   clear HA
   simp only [lambrequinref03_Of.l0] at H
   by_cases c2 : x4_1 < (l0.length : Int)
   rotate_left
   ·rw [if_neg c2] at H
    have c2b0 : decide (x4_1 < (l0.length : Int)) = false := decide_eq_false c2
    clear c2
    obtain rfl := Option.some.inj H
    go_wp2
    go_ret
    exact ⟨_, er_, by (with_reducible repeat (first | apply Ra | apply Rn | apply Rd)); exact HO_3.out, pL HB.out⟩
   rw [if_pos c2] at H
   have c2b0 : decide (x4_1 < (l0.length : Int)) = true := decide_eq_true c2
   clear c2
   by_cases c3 : 0 ≤ x4_1
   rotate_left
   ·rw [if_neg c3] at H
    exact absurd H (by simp)
   rw [if_pos c3] at H
   have c3b0 : decide (0 ≤ x4_1) = true := decide_eq_true c3
   clear c3
   replace H := Option.bind_eq_some_iff.mp H
   obtain ⟨⟨t102, t103, t104⟩, A40, H⟩ := H
   replace H : (if x3_1.length < 4398046511104 then (lambrequinref03_Of.l0 k1 l0 (x3_1 ++ [(⟨t102, t103, t104⟩ : Val)]) (wrap64 (x4_1 + 1))) else (none)) = some r := H
   have A4 := am A40
   clear A40
   by_cases c5 : x3_1.length < 4398046511104
   ·rw [if_pos c5] at H
    have LMc5 := am c5
    clear c5
    obtain ⟨y105, hy105⟩ : ∃ y_ : List (Val), y_ = (x3_1 ++ [(⟨t102, t103, t104⟩ : Val)]) := ⟨_, rfl⟩
    replace H : (lambrequinref03_Of.l0 k1 l0 y105 (wrap64 (x4_1 + 1))) = some r := by first | (rw [hy105]; with_reducible exact H) | (have H2_ := (Option.bind_some _ _).symm.trans H; rw [hy105]; with_reducible exact H2_) | (have H2_ := (Option.bind_some _ _).symm.trans H; with_reducible exact H2_) | with_reducible exact H | (rw [hy105]; exact H) | exact H
    have Ny105 := am hy105
    clear hy105
    have H' := am H
    clear H
    have p101 : 0 ≤ (x4_1 : Int) := dt_
    have q101 : x4_1 < (l0.length : Int) := dt_
    obtain ⟨ad101, e101, hx101_0, hx101_1, hx101_2⟩ := at_T36 HR0.out x4_1 p101 q101
    cases e101
    replace hx101_0 := up_ HB.out hx101_0
    replace hx101_1 := up_ HB.out hx101_1
    replace hx101_2 := up_ HB.out hx101_2
    replace p101 := eq_true p101
    replace q101 := eq_true q101
    go_wp2_with (first | ((with_reducible refine gate_callee (f := 54) rfl ?_); refine goesL_ (some 16) rfl rfl Tryz.func54 (by kernel_rfl) rfl #[.agg #[.bool ((rd_T36 l0 x4_1).isSym), .string ((rd_T36 l0 x4_1).sym), .int .i64 ((rd_T36 l0 x4_1).n)]] rfl gl_ ?_; (with_reducible refine (lambrequinref03_Bare.calls ((rd_T36 l0 x4_1).isSym) ((rd_T36 l0 x4_1).sym) ((rd_T36 l0 x4_1).n) t102 t103 t104 _ A4.out).mono ?_); rintro e w6 ⟨rfl, hb⟩; refine ⟨_, rfl, ?_⟩; replace HO_3 := am (Rb_ HO_3.out hb); replace HB := am (bs_ HB.out hb); (try clear hb); (try clear hb2); (try clear hk); (try clear hi)) | ((with_reducible refine gate_builtin (b := .append) (xs := #[.tmp 11, .tmp 17]) rfl ?_); at_builtin; refine Kd.R_append k36 (w0 := w) w.heap.size rfl (.tmp 11) (.tmp 17) 24 36 (.agg #[(.bool false), (.string ⟨#[]⟩), (.int .i64 0)]) 32 rfl Tryz.underlying24 info36 rfl (by decide) (by omega) u3 x3_1 (⟨t102, t103, t104⟩ : Val) [.bool t102, .string t103, .int .i64 t104] (fun _ => True) (fun _ => False) rfl rfl ?aP (fun _ hk => hk.elim) ?aF ?aO ?aB ?aS ?aL ?_; (case aP => exact k36_mkM _ _ _ (⟨t102, t103, t104⟩ : Val)); (case aB => exact (pL HB.out)); (case aF => exact (fun _ _ => trivial)); (case aO => exact (pR HO_3.out)); (case aS => exact (below_size (pL HB.out))); (case aL => have := LMc5.out; omega); intro v106 w7 ho hb hg hat; rw [← Ny105.out] at ho; replace HB := am (hb); have HO107 := am (ho); clear HO_3; clear ho hb hg hat))
    go_roundg k1
    case measure => have := HK1.out; omega
    case rel => exact ⟨(y105), (wrap64 (x4_1 + 1)), rs_, H', ⟨by have := HK1.out; omega⟩, ⟨pR HO107.out⟩, ⟨pL HB.out⟩⟩
   rw [if_neg c5] at H
   exact absurd H (by simp)
mutual
def lambrequinref14_Sort.l0 : Nat → List (Fact) → List (Fact) → Int → Option ((List (Fact)))
 | 0, _, _, _ => none
 | k + 1, x0, x3, x4 => if x4 < (x0.length : Int) then (if 0 ≤ x4 then ((lambrequinref03_Of.f k ((rd_T26 x0 x4).args)).bind fun t103 => (lambrequinref14_Sort.l1 k x0 x3 x4 0 ((rd_T26 x0 x4).pred) t103)) else (none)) else (some x3)
def lambrequinref14_Sort.l1 : Nat → List (Fact) → List (Fact) → Int → Int → ByteArray → List (Val) → Option ((List (Fact)))
 | 0, _, _, _, _, _, _ => none
 | k + 1, x0, x3, x4, x6, x107000, x107001 => if x6 < (x3.length : Int) then (if 0 ≤ x6 then ((lambrequinref14_Compare.f k ((rd_T26 x3 x6).pred) ((rd_T26 x3 x6).args) x107000 x107001).bind fun t108 => (lambrequinref14_Sort.j2 k x0 x3 x4 x6 (decide (t108 < 0)) x107000 x107001)) else (none)) else (lambrequinref14_Sort.j2 k x0 x3 x4 x6 false x107000 x107001)
def lambrequinref14_Sort.j2 : Nat → List (Fact) → List (Fact) → Int → Int → Bool → ByteArray → List (Val) → Option ((List (Fact)))
 | 0, _, _, _, _, _, _, _ => none
 | k + 1, x0, x3, x4, x6, x38, x107000, x107001 => if x38 = true then (lambrequinref14_Sort.l1 k x0 x3 x4 (wrap64 (x6 + 1)) x107000 x107001) else (if x6 < (x3.length : Int) then (if 0 ≤ x6 then ((lambrequinref14_Compare.f k ((rd_T26 x3 x6).pred) ((rd_T26 x3 x6).args) x107000 x107001).bind fun t110 => (lambrequinref14_Sort.j3 k x0 x3 x4 x6 (t110 == 0) x107000 x107001)) else (none)) else (lambrequinref14_Sort.j3 k x0 x3 x4 x6 false x107000 x107001))
def lambrequinref14_Sort.j3 : Nat → List (Fact) → List (Fact) → Int → Int → Bool → ByteArray → List (Val) → Option ((List (Fact)))
 | 0, _, _, _, _, _, _, _ => none
 | k + 1, x0, x3, x4, x6, x53, x107000, x107001 => if x53 = true then (lambrequinref14_Sort.l0 k x0 x3 (wrap64 (x4 + 1))) else ((some (([] : List (Fact)) : List (Fact))).bind fun y111 => (if 0 ≤ x6 then (if x6 ≤ (x3.length : Int) then ((some (x3.take (x6 : Int).toNat : List (Fact))).bind fun y114 => (if y111.length + y114.length < 3518437208883 then ((some (y111 ++ y114 : List (Fact))).bind fun y119 => (if y119.length < 3518437208883 then ((some (y119 ++ [(⟨x107000, x107001⟩ : Fact)] : List (Fact))).bind fun y122 => ((some (x3.drop (x6 : Int).toNat : List (Fact))).bind fun y125 => (if y122.length + y125.length < 3518437208883 then (lambrequinref14_Sort.l0 k x0 (y122 ++ y125) (wrap64 (x4 + 1))) else (none)))) else (none))) else (none))) else (none)) else (none)))
end
def lambrequinref14_Sort.f (k : Nat) (l0 : List (Fact)) : Option ((List (Fact))) := lambrequinref14_Sort.l0 k l0 ([] : List (Fact)) 0
theorem lambrequinref14_Sort.mono_l : ∀ k, (∀ y0 y1 y2, LeO (lambrequinref14_Sort.l0 k y0 y1 y2) (lambrequinref14_Sort.l0 (k + 1) y0 y1 y2)) ∧ (∀ y0 y1 y2 y3 y4 y5, LeO (lambrequinref14_Sort.l1 k y0 y1 y2 y3 y4 y5) (lambrequinref14_Sort.l1 (k + 1) y0 y1 y2 y3 y4 y5)) ∧ (∀ y0 y1 y2 y3 y4 y5 y6, LeO (lambrequinref14_Sort.j2 k y0 y1 y2 y3 y4 y5 y6) (lambrequinref14_Sort.j2 (k + 1) y0 y1 y2 y3 y4 y5 y6)) ∧ (∀ y0 y1 y2 y3 y4 y5 y6, LeO (lambrequinref14_Sort.j3 k y0 y1 y2 y3 y4 y5 y6) (lambrequinref14_Sort.j3 (k + 1) y0 y1 y2 y3 y4 y5 y6))
 | 0 => ⟨fun _ _ _ r h => by simp [lambrequinref14_Sort.l0] at h, fun _ _ _ _ _ _ r h => by simp [lambrequinref14_Sort.l1] at h, fun _ _ _ _ _ _ _ r h => by simp [lambrequinref14_Sort.j2] at h, fun _ _ _ _ _ _ _ r h => by simp [lambrequinref14_Sort.j3] at h⟩
 | k + 1 => by
  obtain ⟨ih0, ih1, ih2, ih3⟩ := lambrequinref14_Sort.mono_l k
  refine ⟨?_, ?_, ?_, ?_⟩
  ·intro y0 y1 y2
   unfold lambrequinref14_Sort.l0
   repeat' first
   | (with_reducible exact ih0 _ _ _)
   | (with_reducible exact ih1 _ _ _ _ _ _)
   | (with_reducible exact ih2 _ _ _ _ _ _ _)
   | (with_reducible exact ih3 _ _ _ _ _ _ _)
   | (with_reducible exact lambrequinref03_Of.mono _ _)
   | (with_reducible exact lambrequinref14_Compare.mono _ _ _ _ _)
   | (with_reducible exact LeO.refl _)
   | (with_reducible exact LeO.none _)
   | (with_reducible refine LeO.ite ?_ ?_)
   | (with_reducible refine LeO.bind ?_ (fun _ => ?_))
   | exact ih0 _ _ _
   | exact ih1 _ _ _ _ _ _
   | exact ih2 _ _ _ _ _ _ _
   | exact ih3 _ _ _ _ _ _ _
   | exact lambrequinref03_Of.mono _ _
   | exact lambrequinref14_Compare.mono _ _ _ _ _
   | exact LeO.none _
   | refine LeO.ite ?_ ?_
   | refine LeO.bind ?_ (fun _ => ?_)
  ·intro y0 y1 y2 y3 y4 y5
   unfold lambrequinref14_Sort.l1
   repeat' first
   | (with_reducible exact ih0 _ _ _)
   | (with_reducible exact ih1 _ _ _ _ _ _)
   | (with_reducible exact ih2 _ _ _ _ _ _ _)
   | (with_reducible exact ih3 _ _ _ _ _ _ _)
   | (with_reducible exact lambrequinref03_Of.mono _ _)
   | (with_reducible exact lambrequinref14_Compare.mono _ _ _ _ _)
   | (with_reducible exact LeO.refl _)
   | (with_reducible exact LeO.none _)
   | (with_reducible refine LeO.ite ?_ ?_)
   | (with_reducible refine LeO.bind ?_ (fun _ => ?_))
   | exact ih0 _ _ _
   | exact ih1 _ _ _ _ _ _
   | exact ih2 _ _ _ _ _ _ _
   | exact ih3 _ _ _ _ _ _ _
   | exact lambrequinref03_Of.mono _ _
   | exact lambrequinref14_Compare.mono _ _ _ _ _
   | exact LeO.none _
   | refine LeO.ite ?_ ?_
   | refine LeO.bind ?_ (fun _ => ?_)
  ·intro y0 y1 y2 y3 y4 y5 y6
   unfold lambrequinref14_Sort.j2
   repeat' first
   | (with_reducible exact ih0 _ _ _)
   | (with_reducible exact ih1 _ _ _ _ _ _)
   | (with_reducible exact ih2 _ _ _ _ _ _ _)
   | (with_reducible exact ih3 _ _ _ _ _ _ _)
   | (with_reducible exact lambrequinref03_Of.mono _ _)
   | (with_reducible exact lambrequinref14_Compare.mono _ _ _ _ _)
   | (with_reducible exact LeO.refl _)
   | (with_reducible exact LeO.none _)
   | (with_reducible refine LeO.ite ?_ ?_)
   | (with_reducible refine LeO.bind ?_ (fun _ => ?_))
   | exact ih0 _ _ _
   | exact ih1 _ _ _ _ _ _
   | exact ih2 _ _ _ _ _ _ _
   | exact ih3 _ _ _ _ _ _ _
   | exact lambrequinref03_Of.mono _ _
   | exact lambrequinref14_Compare.mono _ _ _ _ _
   | exact LeO.none _
   | refine LeO.ite ?_ ?_
   | refine LeO.bind ?_ (fun _ => ?_)
  intro y0 y1 y2 y3 y4 y5 y6
  unfold lambrequinref14_Sort.j3
  repeat' first
  | (with_reducible exact ih0 _ _ _)
  | (with_reducible exact ih1 _ _ _ _ _ _)
  | (with_reducible exact ih2 _ _ _ _ _ _ _)
  | (with_reducible exact ih3 _ _ _ _ _ _ _)
  | (with_reducible exact lambrequinref03_Of.mono _ _)
  | (with_reducible exact lambrequinref14_Compare.mono _ _ _ _ _)
  | (with_reducible exact LeO.refl _)
  | (with_reducible exact LeO.none _)
  | (with_reducible refine LeO.ite ?_ ?_)
  | (with_reducible refine LeO.bind ?_ (fun _ => ?_))
  | exact ih0 _ _ _
  | exact ih1 _ _ _ _ _ _
  | exact ih2 _ _ _ _ _ _ _
  | exact ih3 _ _ _ _ _ _ _
  | exact lambrequinref03_Of.mono _ _
  | exact lambrequinref14_Compare.mono _ _ _ _ _
  | exact LeO.none _
  | refine LeO.ite ?_ ?_
  | refine LeO.bind ?_ (fun _ => ?_)
theorem lambrequinref14_Sort.mono : ∀ a0 k, LeO (lambrequinref14_Sort.f k a0) (lambrequinref14_Sort.f (k + 1) a0) := by
 intro a0 k
 obtain ⟨ih0, ih1, ih2, ih3⟩ := lambrequinref14_Sort.mono_l k
 unfold lambrequinref14_Sort.f
 repeat' first
   | (with_reducible exact ih0 _ _ _)
   | (with_reducible exact ih1 _ _ _ _ _ _)
   | (with_reducible exact ih2 _ _ _ _ _ _ _)
   | (with_reducible exact ih3 _ _ _ _ _ _ _)
   | (with_reducible exact lambrequinref03_Of.mono _ _)
   | (with_reducible exact lambrequinref14_Compare.mono _ _ _ _ _)
   | (with_reducible exact LeO.refl _)
   | (with_reducible exact LeO.none _)
   | (with_reducible refine LeO.ite ?_ ?_)
   | (with_reducible refine LeO.bind ?_ (fun _ => ?_))
   | exact ih0 _ _ _
   | exact ih1 _ _ _ _ _ _
   | exact ih2 _ _ _ _ _ _ _
   | exact ih3 _ _ _ _ _ _ _
   | exact lambrequinref03_Of.mono _ _
   | exact lambrequinref14_Compare.mono _ _ _ _ _
   | exact LeO.none _
   | refine LeO.ite ?_ ?_
   | refine LeO.bind ?_ (fun _ => ?_)
def lambrequinref14_Sort.T5 : Bool × List (List Nat × List Nat) := (true, [([], []), ([], []), ([0, 1], [0, 1]), ([2], [2]), ([3], [3]), ([], []), ([], []), ([5, 6], [5, 6]), ([7], [7]), ([8], [8]), ([9], [9]), ([4, 10], [4, 10]), ([], []), ([12, 11, 10, 0, 1, 2, 3, 4, 5, 6, 7, 8, 9, 10, 11, 12], [11, 12])])
def lambrequinref14_Sort.B5 : List Nat := [0, 0, 3, 7, 15, 0, 0, 96, 224, 480, 992, 2047, 0, 8191]
theorem lambrequinref14_Sort.tab5 : rtab .any (opsOf Tryz.f21 5) = lambrequinref14_Sort.T5 := by kernel_rfl
theorem lambrequinref14_Sort.bits5 : waitsOk lambrequinref14_Sort.T5.2 lambrequinref14_Sort.B5 = true := by kernel_rfl
def lambrequinref14_Sort.T7 : Bool × List (List Nat × List Nat) := (true, [([], []), ([], []), ([1], [1]), ([0, 2], [0, 2]), ([3], [3]), ([4], [4]), ([4], [4]), ([5, 6, 4], [4, 5, 6]), ([7, 4], [4, 7]), ([4], [4]), ([8, 9, 4, 4], [4, 8, 9]), ([10, 4], [4, 10]), ([4, 11], [4, 11])])
def lambrequinref14_Sort.B7 : List Nat := [0, 0, 2, 7, 15, 31, 31, 127, 255, 31, 1023, 2047, 4095]
theorem lambrequinref14_Sort.tab7 : rtab .any (opsOf Tryz.f21 7) = lambrequinref14_Sort.T7 := by kernel_rfl
theorem lambrequinref14_Sort.bits7 : waitsOk lambrequinref14_Sort.T7.2 lambrequinref14_Sort.B7 = true := by kernel_rfl
def lambrequinref14_Sort.T9 : Bool × List (List Nat × List Nat) := (true, [([], []), ([], []), ([1], [1]), ([0, 2], [0, 2]), ([3], [3]), ([4], [4]), ([4], [4]), ([5, 6, 4], [4, 5, 6]), ([7, 4], [4, 7]), ([4], [4]), ([8, 9, 4, 4], [4, 8, 9]), ([10, 4], [4, 10]), ([4, 11], [4, 11])])
def lambrequinref14_Sort.B9 : List Nat := [0, 0, 2, 7, 15, 31, 31, 127, 255, 31, 1023, 2047, 4095]
theorem lambrequinref14_Sort.tab9 : rtab .any (opsOf Tryz.f21 9) = lambrequinref14_Sort.T9 := by kernel_rfl
theorem lambrequinref14_Sort.bits9 : waitsOk lambrequinref14_Sort.T9.2 lambrequinref14_Sort.B9 = true := by kernel_rfl
set_option maxHeartbeats 8000000 in
set_option maxRecDepth 100000 in
theorem lambrequinref14_Sort.calls (k : Nat) (A0 : Option Addr) (c0 : Nat) (l0 : List (Fact)) (r : List (Fact)) (w : World) (hr0 : Kd.C k26 w A0 l0.length l0) (hc0 : l0.length ≤ c0) (h : lambrequinref14_Sort.f k l0 = some r) :
  Calls Tryz.prog 21 #[.slice A0 l0.length c0] w fun e w' => ∃ v0_ : Value, e = .returned (v0_) ∧ Kd.N k26 26 w' w.heap.size (fun k_ => (w.heap.size ≤ k_)) v0_ r ∧ Below w.heap.size w w' := by
 have hu26 := Tryz.underlying26
 have HR0 := am hr0
 have HC0 := am hc0
 clear hr0 hc0
 have HB := am (Below.refl w.heap.size w)
 have H : (lambrequinref14_Sort.l0 k l0 ([] : List (Fact)) 0) = some r := h
 clear h
 have H' := am H
 clear H
 go_enter Tryz.func21, Tryz.ntmps21
 go_wp2
 go_loopg [3, 4] k (fun kq v3 v4 w' => ∃ (x3_1 : List (Fact)) (x4_1 : Int), v4 = .int .i64 x4_1 ∧ Aside0 (lambrequinref14_Sort.l0 kq l0 x3_1 x4_1 = some r) ∧ Aside0 (kq ≤ k) ∧ Aside0 (Kd.N k26 26 w' w.heap.size (fun k_ => (w.heap.size ≤ k_)) v3 x3_1) ∧ Aside0 (Below w.heap.size w w'))
 case atStart => exact ⟨(([] : List (Fact))), (0), rs_, H', ⟨Nat.le_refl _⟩, ⟨by first | exact Kd.R_nil _ _ _ _ _ | exact Kd.N_nil _ _ _ _ _ | exact Kd.V_nil _ _ _ _ _ | exact Kd.Q_nil _ _ _ _ _ | exact Kd.S_nil _ _ _ _ _⟩, ⟨pL HB.out⟩⟩
 case round =>
  clear H'
  obtain ⟨x3_1, x4_1, rfl, HA, HK1, HO_3, HB⟩ := hrel
  cases gk with
  | zero => exact absurd HA.out (by simp [lambrequinref14_Sort.l0])
  | succ k1 =>
   have H := HA.out
   clear HA
   simp only [lambrequinref14_Sort.l0] at H
   by_cases c2 : x4_1 < (l0.length : Int)
   rotate_left
   ·rw [if_neg c2] at H
    have c2b0 : decide (x4_1 < (l0.length : Int)) = false := decide_eq_false c2
    clear c2
    obtain rfl := Option.some.inj H
    go_wp2
    go_ret
    exact ⟨_, er_, by (with_reducible repeat (first | apply Kd.N_alloc | apply Kd.N_drewN | apply Kd.N_drew)); exact HO_3.out, pL HB.out⟩
   rw [if_pos c2] at H
   have c2b0 : decide (x4_1 < (l0.length : Int)) = true := decide_eq_true c2
   clear c2
   by_cases c3 : 0 ≤ x4_1
   rotate_left
   ·rw [if_neg c3] at H
    exact absurd H (by simp)
   rw [if_pos c3] at H
   have c3b0 : decide (0 ≤ x4_1) = true := decide_eq_true c3
   clear c3
   replace H := Option.bind_eq_some_iff.mp H
   obtain ⟨t103, A40, H⟩ := H
   replace H : (lambrequinref14_Sort.l1 k1 l0 x3_1 x4_1 0 ((rd_T26 l0 x4_1).pred) t103) = some r := H
   have A4 := am A40
   clear A40
   have H' := am H
   clear H
   try go_wp2
   replace HO_3 := am (Kd.N_drew HO_3.out)
   replace HB := am (below_drew1 HB.out)
   have p101 : 0 ≤ (x4_1 : Int) := dt_
   have q101 : x4_1 < (l0.length : Int) := dt_
   obtain ⟨ad101, A101_1, c101_1, e101, hx101_0, hx101_1, hl101_1, hi101_1⟩ := at_T26 HR0.out x4_1 p101 q101
   have hw101_1 := hx101_1
   have hw101_0 := hx101_0
   cases e101
   replace hx101_0 := up_ HB.out hx101_0
   replace hx101_1 := up_ HB.out hx101_1
   have HR101_1 := am hi101_1
   have HC101_1 := am hl101_1
   clear hi101_1 hl101_1
   replace p101 := eq_true p101
   replace q101 := eq_true q101
   have p102 : 0 ≤ (x4_1 : Int) := dt_
   have q102 : x4_1 < (l0.length : Int) := dt_
   obtain ⟨ad102, A102_1, c102_1, e102, hx102_0, hx102_1, hl102_1, hi102_1⟩ := at_T26 HR0.out x4_1 p102 q102
   have hw102_1 := hx102_1
   have hw102_0 := hx102_0
   obtain rfl : ad101 = ad102 := (by injection e102)
   replace hx102_0 := up_ HB.out hx102_0
   replace hx102_1 := up_ HB.out hx102_1
   have HR102_1 := am hi102_1
   have HC102_1 := am hl102_1
   clear hi102_1 hl102_1
   replace p102 := eq_true p102
   replace q102 := eq_true q102
   have ea_ := Option.some.inj (hx101_1.symm.trans hx102_1)
   injection ea_ with ea_ en_ ec_
   subst ea_
   subst ec_
   clear en_
   refine start_ (n := 14) (S := fun w' => w'.cell? (ad101.add ((x4_1).toNat * 2)) = some (.string ((rd_T26 l0 x4_1).pred)) ∧ w'.cell? ⟨(ad101.add ((x4_1).toNat * 2)).block, (ad101.add ((x4_1).toNat * 2)).off + 1, none⟩ = some (.slice A101_1 ((rd_T26 l0 x4_1).args).length c101_1) ∧ w'.cell? (ad101.add ((x4_1).toNat * 2)) = some (.string ((rd_T26 l0 x4_1).pred)) ∧ w'.cell? ⟨(ad101.add ((x4_1).toNat * 2)).block, (ad101.add ((x4_1).toNat * 2)).off + 1, none⟩ = some (.slice A101_1 ((rd_T26 l0 x4_1).args).length c101_1)) (ds := []) (bl 14 0) (by kernel_rfl) rfl rfl ⟨(up_ HB.out hw101_0), (up_ HB.out hw101_1), (up_ HB.out hw102_0), (up_ HB.out hw102_1)⟩ (fun hHeld => ?_); refine with_tabW lambrequinref14_Sort.tab5 lambrequinref14_Sort.bits5 (fun HT_ HW_ => ?_)
   generalize wr.drew = w5 at HO_3 HB HR101_1 HR102_1 hx101_0 hx101_1 hx102_0 hx102_1 hHeld ⊢
   refine pu_ (i := 0) (N := some 14) (bl 14 1) rfl rfl (any_of HT_.out (by kernel_rfl)) ?_
   refine pu_ (i := 1) (N := some 15) (bl 14 3) rfl rfl (any_of HT_.out (by kernel_rfl)) ?_
   refine pu_ (i := 2) (N := some 16) (bl 14 7) rfl rfl (any_of HT_.out (by kernel_rfl)) ?_
   refine pu_ (i := 3) (N := some 17) (bl 14 15) rfl rfl (any_of HT_.out (by kernel_rfl)) ?_
   refine pu_ (i := 5) (N := some 19) (bl 14 47) rfl rfl (any_of HT_.out (by kernel_rfl)) ?_
   refine pu_ (i := 6) (N := some 20) (bl 14 111) rfl rfl (any_of HT_.out (by kernel_rfl)) ?_
   refine pu_ (i := 7) (N := some 21) (bl 14 239) rfl rfl (any_of HT_.out (by kernel_rfl)) ?_
   refine pu_ (i := 8) (N := some 22) (bl 14 495) rfl rfl (any_of HT_.out (by kernel_rfl)) ?_
   refine take_ (i := 4) (N := some 18) (v := ?_) (a' := ?_) (bl 14 511) rfl rfl (take_ofW HT_.out HW_.out (by kernel_rfl)) (fun _ _ _ h => h) (Or.inl ⟨by rfl, ?_⟩) hHeld ?_ ?_
   rotate_left
   ·rintro w' ⟨s0, s1, s2, s3⟩
    go_simp
    with_reducible rfl
   rotate_left
   ·simp only [Act.put, sA, sZ, sS, i64_w, i32_w]
    rfl
   refine take_ (i := 9) (N := some 23) (v := ?_) (a' := ?_) (bl 14 1023) rfl rfl (take_ofW HT_.out HW_.out (by kernel_rfl)) (fun _ _ _ h => h) (Or.inl ⟨by rfl, ?_⟩) hHeld ?_ ?_
   rotate_left
   ·rintro w' ⟨s0, s1, s2, s3⟩
    go_simp
    with_reducible rfl
   rotate_left
   ·simp only [Act.put, sA, sZ, sS, i64_w, i32_w]
    rfl
   refine join_ (σ := Value × Nat) 1 (bl 14 8191) (fun s_ => [(24, s_.1), (5, .pointer (some ⟨s_.2, 0, none⟩)), (25, .agg #[.string ((rd_T26 l0 x4_1).pred), s_.1])]) (fun s_ w' => (w'.cell? (ad101.add ((x4_1).toNat * 2)) = some (.string ((rd_T26 l0 x4_1).pred)) ∧ w'.cell? ⟨(ad101.add ((x4_1).toNat * 2)).block, (ad101.add ((x4_1).toNat * 2)).off + 1, none⟩ = some (.slice A101_1 ((rd_T26 l0 x4_1).args).length c101_1) ∧ w'.cell? (ad101.add ((x4_1).toNat * 2)) = some (.string ((rd_T26 l0 x4_1).pred)) ∧ w'.cell? ⟨(ad101.add ((x4_1).toNat * 2)).block, (ad101.add ((x4_1).toNat * 2)).off + 1, none⟩ = some (.slice A101_1 ((rd_T26 l0 x4_1).args).length c101_1)) ∧ (Kd.R k36 36 w' w.heap.size (fun k_ => (w.heap.size ≤ k_)) s_.1 t103) ∧ (Kd.N k26 26 w' w.heap.size (fun k_ => (w.heap.size ≤ k_) ∧ some k_ ≠ (s_.1 : Value).ownBlock ∧ k_ ≠ s_.2) u3 x3_1) ∧ (w'.heap[s_.2]? = some (.cells #[.string (⟨#[]⟩ : ByteArray), .slice none 0 0] 26 (0, 0))) ∧ (w.heap.size ≤ s_.2) ∧ (w.heap.size ≤ s_.2) ∧ (Below w.heap.size w w')) ?_ ?_
   rotate_left
   ·intro hCont
    refine two_ (i := 10) (j := 12) (Ni := some 24) (Nj := some 5) (bl 14 2047) (bl 14 5119) rfl rfl rfl rfl (two_of HT_.out (by kernel_rfl)) (by decide) (by decide) (fun K hK => ?_) (fun K hK => ?_)
    ·skip
     refine goes_ Tryz.func37 (by kernel_rfl) rfl #[.slice A101_1 ((rd_T26 l0 x4_1).args).length c101_1] (by rfl) rfl rfl gl_ ?_
     with_reducible refine (lambrequinref03_Of.calls k1 _ _ ((rd_T26 l0 x4_1).args) t103 _ ?side1 ?side2 A4.out).mono ?_
     (case side1 => repeat (first | exact (Kd.C_below HR102_1.out HB.out) | (with_reducible refine Kd.C_alloc ?_ _) | (with_reducible refine Kd.C_drewN ?_ _) | (with_reducible refine Kd.C_drew ?_)))
     (case side2 => exact HC102_1.out)
     rintro e w6 ⟨v104, rfl, ho0, hb⟩
     refine ⟨_, rfl, ?_⟩
     replace HO_3 := am (Kd.N_elder' (by (with_reducible repeat (first | apply Kd.N_alloc | apply Kd.N_drewN | apply Kd.N_drew)); exact HO_3.out) (Kd.R_base ho0) hb)
     have HO105 := am (Kd.R_lower (Kd.R_newM (M := fun k_ => (w.heap.size ≤ k_)) ho0 (below_size (pL HB.out)) (fun k_ h_ => h_)) (below_size (pL HB.out)))
     replace HB := am (bs_ HB.out hb)
     (try clear hb)
     (try clear hb2)
     (try clear hk)
     (try clear hi)
     (try clear ho0)
     obtain ⟨Ao7, co7, eo7⟩ := Kd.R_slice HO105.out
     (first | subst eo7 | (injection eo7 with f1_ f2_ f3_; have f4_ := f1_.symm; have f5_ := f3_.symm; clear f1_ f2_ f3_; subst f4_; subst f5_))
     refine hK.out _ _ ⟨(up_ HB.out hw101_0), (up_ HB.out hw101_1), (up_ HB.out hw102_0), (up_ HB.out hw102_1)⟩ (fun hHeld => ?_)
     clear hK K
     refine norm_ (a' := ?_) ?_ ?_
     rotate_left
     ·show Act.put _ (some 24) _ = _
      simp only [Act.put, sA, sZ, sS, i64_w, i32_w]
      rfl
     refine pu_ (i := 11) (N := some 25) (bl 14 4095) rfl rfl (any_of HT_.out (by kernel_rfl)) ?_
     refine one_ (i := 12) (N := some 5) (bl 14 8191) rfl rfl (one_of HT_.out (by kernel_rfl)) (by decide) (fun K hK => ?_)
     refine box_step ?hg (N := 5) ?hd (cs := #[.string (⟨#[]⟩ : ByteArray), .slice none 0 0]) (t := 26) ?hr ?_; (case hd => rfl); (case hg => rfl); (case hr => first | (go_simp; done) | (go_simp; rfl))
     intro gb106 hg w8 hbox hb
     replace HO_3 := am (Kd.N_below (Kd.N_elderB (by (with_reducible repeat (first | apply Kd.N_alloc | apply Kd.N_drewN | apply Kd.N_drew)); exact HO_3.out) gb106 (Nat.le_of_eq hg.symm)) hb)
     replace HO105 := am (Rb_ HO105.out hb)
     have BK106 := am (hbox)
     have GW106 := am ((by rw [hg]; exact (below_size (pL HB.out)) : w.heap.size ≤ gb106))
     have GE106 := am ((by rw [hg]; exact (below_size (pL HB.out)) : w.heap.size ≤ gb106))
     replace HB := am (bs_ HB.out hb)
     clear hb hbox hg
     refine hK.out _ _ ⟨(up_ HB.out hw101_0), (up_ HB.out hw101_1), (up_ HB.out hw102_0), (up_ HB.out hw102_1)⟩ (fun hHeld => ?_)
     clear hK K
     refine norm_ (a' := ?_) ?_ ?_
     rotate_left
     ·show Act.put _ (some 5) _ = _
      simp only [Act.put, sA, sZ, sS, i64_w, i32_w]
      rfl
     exact norm_ (by simp only [putAll, Act.put, List.setIfInBounds_toArray, List.set_cons_zero, List.set_cons_succ]) (hCont (.slice Ao7 t103.length co7, gb106) _ ⟨hHeld, (by (with_reducible repeat (first | apply Ra | apply Rn | apply Rd)); exact Kd.R_mono HO105.out (fun _ hk => hk.1)), (by (with_reducible repeat (first | apply Kd.N_alloc | apply Kd.N_drewN | apply Kd.N_drew)); exact Kd.N_mono HO_3.out (fun _ hk => ⟨hk.1.1, ⟨hk.1.2, hk.2⟩⟩)), (pB BK106.out), GW106.out, GE106.out, (pL HB.out)⟩)
    skip
    refine box_step ?hg (N := 5) ?hd (cs := #[.string (⟨#[]⟩ : ByteArray), .slice none 0 0]) (t := 26) ?hr ?_; (case hd => rfl); (case hg => rfl); (case hr => first | (go_simp; done) | (go_simp; rfl))
    intro gb106 hg w6 hbox hb
    replace HO_3 := am (Kd.N_below (Kd.N_elderB (by (with_reducible repeat (first | apply Kd.N_alloc | apply Kd.N_drewN | apply Kd.N_drew)); exact HO_3.out) gb106 (Nat.le_of_eq hg.symm)) hb)
    have BK106 := am (hbox)
    have GW106 := am ((by rw [hg]; exact (below_size (pL HB.out)) : w.heap.size ≤ gb106))
    have GE106 := am ((by rw [hg]; exact (below_size (pL HB.out)) : w.heap.size ≤ gb106))
    replace HB := am (bs_ HB.out hb)
    clear hb hbox hg
    refine hK.out _ _ ⟨(up_ HB.out hw101_0), (up_ HB.out hw101_1), (up_ HB.out hw102_0), (up_ HB.out hw102_1)⟩ (fun hHeld => ?_)
    clear hK K
    refine norm_ (a' := ?_) ?_ ?_
    rotate_left
    ·show Act.put _ (some 5) _ = _
     simp only [Act.put, sA, sZ, sS, i64_w, i32_w]
     rfl
    refine one_ (i := 10) (N := some 24) (bl 14 6143) rfl rfl (one_of HT_.out (by kernel_rfl)) (by decide) (fun K hK => ?_)
    refine goes_ Tryz.func37 (by kernel_rfl) rfl #[.slice A101_1 ((rd_T26 l0 x4_1).args).length c101_1] (by rfl) rfl rfl gl_ ?_
    with_reducible refine (lambrequinref03_Of.calls k1 _ _ ((rd_T26 l0 x4_1).args) t103 _ ?side1 ?side2 A4.out).mono ?_
    (case side1 => repeat (first | exact (Kd.C_below HR102_1.out HB.out) | (with_reducible refine Kd.C_alloc ?_ _) | (with_reducible refine Kd.C_drewN ?_ _) | (with_reducible refine Kd.C_drew ?_)))
    (case side2 => exact HC102_1.out)
    rintro e w7 ⟨v104, rfl, ho0, hb⟩
    refine ⟨_, rfl, ?_⟩
    replace HO_3 := am (Kd.N_elder' (by (with_reducible repeat (first | apply Kd.N_alloc | apply Kd.N_drewN | apply Kd.N_drew)); exact HO_3.out) (Kd.R_base ho0) hb)
    have HO105 := am (Kd.R_lower (Kd.R_newM (M := fun k_ => (w.heap.size ≤ k_)) ho0 (below_size (pL HB.out)) (fun k_ h_ => h_)) (below_size (pL HB.out)))
    replace BK106 := am (bb_ BK106.out hb)
    replace HB := am (bs_ HB.out hb)
    (try clear hb)
    (try clear hb2)
    (try clear hk)
    (try clear hi)
    (try clear ho0)
    obtain ⟨Ao8, co8, eo8⟩ := Kd.R_slice HO105.out
    (first | subst eo8 | (injection eo8 with f1_ f2_ f3_; have f4_ := f1_.symm; have f5_ := f3_.symm; clear f1_ f2_ f3_; subst f4_; subst f5_))
    refine hK.out _ _ ⟨(up_ HB.out hw101_0), (up_ HB.out hw101_1), (up_ HB.out hw102_0), (up_ HB.out hw102_1)⟩ (fun hHeld => ?_)
    clear hK K
    refine norm_ (a' := ?_) ?_ ?_
    rotate_left
    ·show Act.put _ (some 24) _ = _
     simp only [Act.put, sA, sZ, sS, i64_w, i32_w]
     rfl
    refine pu_ (i := 11) (N := some 25) (bl 14 8191) rfl rfl (any_of HT_.out (by kernel_rfl)) ?_
    exact norm_ (by simp only [putAll, Act.put, List.setIfInBounds_toArray, List.set_cons_zero, List.set_cons_succ]) (hCont (.slice Ao8 t103.length co8, gb106) _ ⟨hHeld, (by (with_reducible repeat (first | apply Ra | apply Rn | apply Rd)); exact Kd.R_mono HO105.out (fun _ hk => hk.1)), (by (with_reducible repeat (first | apply Kd.N_alloc | apply Kd.N_drewN | apply Kd.N_drew)); exact Kd.N_mono HO_3.out (fun _ hk => ⟨hk.1.1, ⟨hk.2, hk.1.2⟩⟩)), (pB BK106.out), GW106.out, GE106.out, (pL HB.out)⟩)
   rintro ⟨v104, gb106⟩ w9 ⟨hS_, h0_, h1_, h2_, h3_, h4_, h5_⟩
   have HO105 : Aside0 (Kd.R k36 36 w9 w.heap.size (fun k_ => (w.heap.size ≤ k_)) v104 t103) := ⟨h0_⟩
   replace HO_3 : Aside0 (Kd.N k26 26 w9 w.heap.size (fun k_ => (w.heap.size ≤ k_) ∧ some k_ ≠ (v104 : Value).ownBlock ∧ k_ ≠ gb106) u3 x3_1) := ⟨h1_⟩
   have BK106 : Aside0 (w9.heap[gb106]? = some (.cells #[.string (⟨#[]⟩ : ByteArray), .slice none 0 0] 26 (0, 0))) := ⟨h2_⟩
   have GW106 : Aside0 (w.heap.size ≤ gb106) := ⟨h3_⟩
   have GE106 : Aside0 (w.heap.size ≤ gb106) := ⟨h4_⟩
   replace HB : Aside0 (Below w.heap.size w w9) := ⟨h5_⟩
   clear h0_ h1_ h2_ h3_ h4_ h5_
   have hHeld : w9.cell? (ad101.add ((x4_1).toNat * 2)) = some (.string ((rd_T26 l0 x4_1).pred)) ∧ w9.cell? ⟨(ad101.add ((x4_1).toNat * 2)).block, (ad101.add ((x4_1).toNat * 2)).off + 1, none⟩ = some (.slice A101_1 ((rd_T26 l0 x4_1).args).length c101_1) ∧ w9.cell? (ad101.add ((x4_1).toNat * 2)) = some (.string ((rd_T26 l0 x4_1).pred)) ∧ w9.cell? ⟨(ad101.add ((x4_1).toNat * 2)).block, (ad101.add ((x4_1).toNat * 2)).off + 1, none⟩ = some (.slice A101_1 ((rd_T26 l0 x4_1).args).length c101_1) := hS_
   obtain ⟨Ao10, co10, eo10⟩ := Kd.R_slice HO105.out
   (first | subst eo10 | (injection eo10 with f1_ f2_ f3_; have f4_ := f1_.symm; have f5_ := f3_.symm; clear f1_ f2_ f3_; subst f4_; subst f5_))
   refine norm_ (a' := ?_) ?_ ?_
   rotate_left
   ·simp only [putAll, Act.put, List.setIfInBounds_toArray, List.set_cons_zero, List.set_cons_succ]
    rfl
   refine one_ (i := 13) (N := none) (bl 14 16383) rfl rfl (one_of HT_.out (by kernel_rfl)) (by decide) (fun K hK => ?_)
   have hs11 : w9.cell? ⟨gb106, 0, none⟩ = some (.string (⟨#[]⟩ : ByteArray)) := (blk_cell BK106.out 0).trans rfl
   have hfs11 := blk_frozen BK106.out 0
   have hs12 : w9.cell? ⟨gb106, 1, none⟩ = some (.slice none 0 0) := (blk_cell BK106.out 1).trans rfl
   have hfs12 := blk_frozen BK106.out 1
   refine skip_ (w1 := ?_) (by rfl) rfl ?_ ?_
   rotate_left
   ·go_simp
    rfl
   refine hK.out _ _ ⟨((cell_far (p := ⟨gb106, _, none⟩) (by first | exact Nat.ne_of_lt (Nat.lt_of_lt_of_le (by have := blt_ hw101_0; first | rwa [add_block] at this | exact this) GW106.out) | (rw [add_block]; exact Nat.ne_of_lt (Nat.lt_of_lt_of_le (by have := blt_ hw101_0; first | rwa [add_block] at this | exact this) GW106.out)) | (show (Addr.add _ _).block ≠ _; rw [add_block]; exact Nat.ne_of_lt (Nat.lt_of_lt_of_le (by have := blt_ hw101_0; first | rwa [add_block] at this | exact this) GW106.out)) | (dsimp only; exact Nat.ne_of_lt (Nat.lt_of_lt_of_le (by have := blt_ hw101_0; first | rwa [add_block] at this | exact this) GW106.out))) _).trans (((cell_far (p := ⟨gb106, _, none⟩) (by first | exact Nat.ne_of_lt (Nat.lt_of_lt_of_le (by have := blt_ hw101_0; first | rwa [add_block] at this | exact this) GW106.out) | (rw [add_block]; exact Nat.ne_of_lt (Nat.lt_of_lt_of_le (by have := blt_ hw101_0; first | rwa [add_block] at this | exact this) GW106.out)) | (show (Addr.add _ _).block ≠ _; rw [add_block]; exact Nat.ne_of_lt (Nat.lt_of_lt_of_le (by have := blt_ hw101_0; first | rwa [add_block] at this | exact this) GW106.out)) | (dsimp only; exact Nat.ne_of_lt (Nat.lt_of_lt_of_le (by have := blt_ hw101_0; first | rwa [add_block] at this | exact this) GW106.out))) _).trans (hHeld.1)))), ((cell_far (p := ⟨gb106, _, none⟩) (by first | exact Nat.ne_of_lt (Nat.lt_of_lt_of_le (by have := blt_ hw101_1; first | rwa [add_block] at this | exact this) GW106.out) | (rw [add_block]; exact Nat.ne_of_lt (Nat.lt_of_lt_of_le (by have := blt_ hw101_1; first | rwa [add_block] at this | exact this) GW106.out)) | (show (Addr.add _ _).block ≠ _; rw [add_block]; exact Nat.ne_of_lt (Nat.lt_of_lt_of_le (by have := blt_ hw101_1; first | rwa [add_block] at this | exact this) GW106.out)) | (dsimp only; exact Nat.ne_of_lt (Nat.lt_of_lt_of_le (by have := blt_ hw101_1; first | rwa [add_block] at this | exact this) GW106.out))) _).trans (((cell_far (p := ⟨gb106, _, none⟩) (by first | exact Nat.ne_of_lt (Nat.lt_of_lt_of_le (by have := blt_ hw101_1; first | rwa [add_block] at this | exact this) GW106.out) | (rw [add_block]; exact Nat.ne_of_lt (Nat.lt_of_lt_of_le (by have := blt_ hw101_1; first | rwa [add_block] at this | exact this) GW106.out)) | (show (Addr.add _ _).block ≠ _; rw [add_block]; exact Nat.ne_of_lt (Nat.lt_of_lt_of_le (by have := blt_ hw101_1; first | rwa [add_block] at this | exact this) GW106.out)) | (dsimp only; exact Nat.ne_of_lt (Nat.lt_of_lt_of_le (by have := blt_ hw101_1; first | rwa [add_block] at this | exact this) GW106.out))) _).trans (hHeld.2.1)))), ((cell_far (p := ⟨gb106, _, none⟩) (by first | exact Nat.ne_of_lt (Nat.lt_of_lt_of_le (by have := blt_ hw102_0; first | rwa [add_block] at this | exact this) GW106.out) | (rw [add_block]; exact Nat.ne_of_lt (Nat.lt_of_lt_of_le (by have := blt_ hw102_0; first | rwa [add_block] at this | exact this) GW106.out)) | (show (Addr.add _ _).block ≠ _; rw [add_block]; exact Nat.ne_of_lt (Nat.lt_of_lt_of_le (by have := blt_ hw102_0; first | rwa [add_block] at this | exact this) GW106.out)) | (dsimp only; exact Nat.ne_of_lt (Nat.lt_of_lt_of_le (by have := blt_ hw102_0; first | rwa [add_block] at this | exact this) GW106.out))) _).trans (((cell_far (p := ⟨gb106, _, none⟩) (by first | exact Nat.ne_of_lt (Nat.lt_of_lt_of_le (by have := blt_ hw102_0; first | rwa [add_block] at this | exact this) GW106.out) | (rw [add_block]; exact Nat.ne_of_lt (Nat.lt_of_lt_of_le (by have := blt_ hw102_0; first | rwa [add_block] at this | exact this) GW106.out)) | (show (Addr.add _ _).block ≠ _; rw [add_block]; exact Nat.ne_of_lt (Nat.lt_of_lt_of_le (by have := blt_ hw102_0; first | rwa [add_block] at this | exact this) GW106.out)) | (dsimp only; exact Nat.ne_of_lt (Nat.lt_of_lt_of_le (by have := blt_ hw102_0; first | rwa [add_block] at this | exact this) GW106.out))) _).trans (hHeld.2.2.1)))), ((cell_far (p := ⟨gb106, _, none⟩) (by first | exact Nat.ne_of_lt (Nat.lt_of_lt_of_le (by have := blt_ hw102_1; first | rwa [add_block] at this | exact this) GW106.out) | (rw [add_block]; exact Nat.ne_of_lt (Nat.lt_of_lt_of_le (by have := blt_ hw102_1; first | rwa [add_block] at this | exact this) GW106.out)) | (show (Addr.add _ _).block ≠ _; rw [add_block]; exact Nat.ne_of_lt (Nat.lt_of_lt_of_le (by have := blt_ hw102_1; first | rwa [add_block] at this | exact this) GW106.out)) | (dsimp only; exact Nat.ne_of_lt (Nat.lt_of_lt_of_le (by have := blt_ hw102_1; first | rwa [add_block] at this | exact this) GW106.out))) _).trans (((cell_far (p := ⟨gb106, _, none⟩) (by first | exact Nat.ne_of_lt (Nat.lt_of_lt_of_le (by have := blt_ hw102_1; first | rwa [add_block] at this | exact this) GW106.out) | (rw [add_block]; exact Nat.ne_of_lt (Nat.lt_of_lt_of_le (by have := blt_ hw102_1; first | rwa [add_block] at this | exact this) GW106.out)) | (show (Addr.add _ _).block ≠ _; rw [add_block]; exact Nat.ne_of_lt (Nat.lt_of_lt_of_le (by have := blt_ hw102_1; first | rwa [add_block] at this | exact this) GW106.out)) | (dsimp only; exact Nat.ne_of_lt (Nat.lt_of_lt_of_le (by have := blt_ hw102_1; first | rwa [add_block] at this | exact this) GW106.out))) _).trans (hHeld.2.2.2))))⟩ (fun hHeld => ?_)
   clear hK K
   refine done_ (done_of HT_.out (by kernel_rfl)) ?_
   try go_wp2
   go_loopg [6] k1 (fun kq v6 w' => ∃ (x6_2 : Int), v6 = .int .i64 x6_2 ∧ Aside0 (lambrequinref14_Sort.l1 kq l0 x3_1 x4_1 x6_2 ((rd_T26 l0 x4_1).pred) t103 = some r) ∧ Aside0 (kq ≤ k1) ∧ Aside0 (Kd.N k26 26 w' w.heap.size (fun k_ => (w.heap.size ≤ k_) ∧ some k_ ≠ ((.slice Ao10 t103.length co10) : Value).ownBlock ∧ k_ ≠ gb106) u3 x3_1) ∧ Aside0 (Kd.R k36 36 w' w.heap.size (fun k_ => (w.heap.size ≤ k_)) (.slice Ao10 t103.length co10) t103) ∧ Aside0 (w'.heap[gb106]? = some (.cells #[.string ((rd_T26 l0 x4_1).pred), (.slice Ao10 t103.length co10)] 26 (0, 0))) ∧ Aside0 (Below w.heap.size w w'))
   case atStart => exact ⟨(0), rs_, H', ⟨Nat.le_refl _⟩, ⟨by (with_reducible repeat (first | apply Kd.N_alloc | apply Kd.N_drewN | apply Kd.N_drew)); exact Kd.N_mono (Kd.N_far (p := ⟨gb106, 1, none⟩) (Kd.N_far (p := ⟨gb106, 0, none⟩) (Kd.N_mono HO_3.out (fun k_ hk => (⟨hk, hk.2.2⟩ : _ ∧ k_ ≠ gb106))) (fun _ hk => hk.2) _) (fun _ hk => hk.2) _) (fun _ hk => ⟨hk.1.1, ⟨hk.1.2.1, hk.1.2.2⟩⟩)⟩, ⟨by (with_reducible repeat (first | apply Ra | apply Rn | apply Rd)); exact Kd.R_mono (Rf (Rf (Kd.R_types HO105.out BK106.out (by decide)))) (fun _ hk => hk.1)⟩, ⟨by (with_reducible repeat (first | refine bN ?_ _ | refine bD ?_ | refine bA ?_ _)); exact bq2 BK106.out⟩, ⟨pL HB.out⟩⟩
   case round =>
    clear H'
    try clear c1
    try clear p1
    try clear q1
    try clear hx1
    try clear c2
    try clear c2b0
    try clear p2
    try clear c3
    try clear c3b0
    try clear c10
    try clear p10
    try clear q10
    try clear hx10
    try clear hx101_0
    try clear hx101_1
    try clear hx102_0
    try clear hx102_1
    try clear p101
    try clear p102
    try clear q101
    try clear q102
    obtain ⟨x6_2, rfl, HA, HK2, HO_3, HO_107001, BK106, HB⟩ := hrel
    cases gk with
    | zero => exact absurd HA.out (by simp [lambrequinref14_Sort.l1])
    | succ k2 =>
     have H := HA.out
     clear HA
     simp only [lambrequinref14_Sort.l1] at H
     have HC13 := am H
     clear H
     go_upto_region 7 with (fail)
     go_cut [38] (fun v38 wc => ∃ (kq : Nat) (x38_12 : Bool), v38 = .bool x38_12 ∧ Aside0 (lambrequinref14_Sort.j2 kq l0 x3_1 x4_1 x6_2 x38_12 ((rd_T26 l0 x4_1).pred) t103 = some r) ∧ Aside0 (kq ≤ k2) ∧ Aside0 (Kd.N k26 26 wc w.heap.size (fun k_ => (w.heap.size ≤ k_) ∧ some k_ ≠ ((.slice Ao10 t103.length co10) : Value).ownBlock ∧ k_ ≠ gb106) u3 x3_1) ∧ Aside0 (Kd.R k36 36 wc w.heap.size (fun k_ => (w.heap.size ≤ k_)) (.slice Ao10 t103.length co10) t103) ∧ Aside0 (wc.heap[gb106]? = some (.cells #[.string ((rd_T26 l0 x4_1).pred), (.slice Ao10 t103.length co10)] 26 (0, 0))) ∧ Aside0 (Below w.heap.size w wc))
     case first =>
      have H := HC13.out
      clear HC13
      by_cases c14 : x6_2 < (x3_1.length : Int)
      rotate_left
      ·rw [if_neg c14] at H
       have c14b0 : decide (x6_2 < (x3_1.length : Int)) = false := decide_eq_false c14
       clear c14
       (first | rw [c14b0] | (simp only [i64_w, i32_w]; rw [c14b0]) | skip)
       have H' := am H
       clear H
       try go_wp2
       replace HO_3 := am (Kd.N_drew HO_3.out)
       replace HO_107001 := am (Kd.R_drew HO_107001.out)
       replace BK106 := am (blk_drew BK106.out)
       replace HB := am (below_drew1 HB.out)
       obtain ⟨Ao21, co21, eo21⟩ := Kd.N_slice HO_3.out
       (first | subst eo21 | (injection eo21 with f1_ f2_ f3_; have f4_ := f1_.symm; have f5_ := f3_.symm; clear f1_ f2_ f3_; subst f4_; subst f5_))
       refine start_ (n := 13) (S := fun w' => True) (ds := []) (bl 13 0) (by kernel_rfl) rfl rfl trivial (fun hHeld => ?_); refine with_tabW lambrequinref14_Sort.tab7 lambrequinref14_Sort.bits7 (fun HT_ HW_ => ?_)
       generalize wr.drew = w20 at HO_3 HO_107001 BK106 HB hHeld ⊢
       refine pu_ (i := 0) (N := some 26) (bl 13 1) rfl rfl (any_of HT_.out (by kernel_rfl)) ?_
       refine pu_ (i := 1) (N := some 27) (bl 13 3) rfl rfl (any_of HT_.out (by kernel_rfl)) ?_
       refine pu_ (i := 2) (N := some 28) (bl 13 7) rfl rfl (any_of HT_.out (by kernel_rfl)) ?_
       refine pu_ (i := 3) (N := some 29) (bl 13 15) rfl rfl (any_of HT_.out (by kernel_rfl)) ?_
       refine pu_ (i := 4) (N := some 30) (bl 13 31) rfl rfl (any_of HT_.out (by kernel_rfl)) ?_
       refine pure_ (i := 5) (N := some 31) (v := undef) (a' := ?_) (bl 13 63) rfl rfl (any_of HT_.out (by kernel_rfl)) (fun _ _ _ h => h) (Or.inr ⟨by rfl, rfl⟩) ?_ ?_
       rotate_left
       ·simp only [Act.put, sA, sZ, sS, i64_w, i32_w]
        rfl
       refine pure_ (i := 6) (N := some 32) (v := undef) (a' := ?_) (bl 13 127) rfl rfl (any_of HT_.out (by kernel_rfl)) (fun _ _ _ h => h) (Or.inr ⟨by rfl, rfl⟩) ?_ ?_
       rotate_left
       ·simp only [Act.put, sA, sZ, sS, i64_w, i32_w]
        rfl
       refine pure_ (i := 7) (N := some 33) (v := undef) (a' := ?_) (bl 13 255) rfl rfl (any_of HT_.out (by kernel_rfl)) (fun _ _ _ h => h) (Or.inr ⟨by rfl, rfl⟩) ?_ ?_
       rotate_left
       ·simp only [Act.put, sA, sZ, sS, i64_w, i32_w]
        rfl
       refine pure_ (i := 8) (N := some 34) (v := undef) (a' := ?_) (bl 13 511) rfl rfl (any_of HT_.out (by kernel_rfl)) (fun _ _ _ h => h) (Or.inr ⟨by rfl, rfl⟩) ?_ ?_
       rotate_left
       ·simp only [Act.put, sA, sZ, sS, i64_w, i32_w]
        rfl
       refine pure_ (i := 9) (N := some 35) (v := undef) (a' := ?_) (bl 13 1023) rfl rfl (any_of HT_.out (by kernel_rfl)) (fun _ _ _ h => h) (Or.inr ⟨by rfl, rfl⟩) ?_ ?_
       rotate_left
       ·simp only [Act.put, sA, sZ, sS, i64_w, i32_w]
        rfl
       refine pure_ (i := 10) (N := some 36) (v := undef) (a' := ?_) (bl 13 2047) rfl rfl (any_of HT_.out (by kernel_rfl)) (fun _ _ _ h => h) (Or.inr ⟨by rfl, rfl⟩) ?_ ?_
       rotate_left
       ·simp only [Act.put, sA, sZ, sS, i64_w, i32_w]
        rfl
       refine pure_ (i := 11) (N := some 37) (v := undef) (a' := ?_) (bl 13 4095) rfl rfl (any_of HT_.out (by kernel_rfl)) (fun _ _ _ h => h) (Or.inr ⟨by rfl, rfl⟩) ?_ ?_
       rotate_left
       ·simp only [Act.put, sA, sZ, sS, i64_w, i32_w]
        rfl
       refine pu_ (i := 12) (N := some 38) (bl 13 8191) rfl rfl (any_of HT_.out (by kernel_rfl)) ?_
       refine done_ (done_of HT_.out (by kernel_rfl)) ?_
       try go_wp2
       go_meet
       case rel => exact ⟨_, (false), rs_, H', ⟨by have := HK1.out; have := HK2.out; first | omega | exact Nat.le_refl _⟩, ⟨by (with_reducible repeat (first | apply Kd.N_alloc | apply Kd.N_drewN | apply Kd.N_drew)); exact HO_3.out⟩, ⟨pR HO_107001.out⟩, ⟨pB BK106.out⟩, ⟨pL HB.out⟩⟩
      rw [if_pos c14] at H
      have c14b0 : decide (x6_2 < (x3_1.length : Int)) = true := decide_eq_true c14
      clear c14
      (first | rw [c14b0] | (simp only [i64_w, i32_w]; rw [c14b0]) | skip)
      by_cases c15 : 0 ≤ x6_2
      rotate_left
      ·rw [if_neg c15] at H
       exact absurd H (by simp)
      rw [if_pos c15] at H
      have c15b0 : decide (0 ≤ x6_2) = true := decide_eq_true c15
      clear c15
      replace H := Option.bind_eq_some_iff.mp H
      obtain ⟨t108, A160, H⟩ := H
      replace H : (lambrequinref14_Sort.j2 k2 l0 x3_1 x4_1 x6_2 (decide (t108 < 0)) ((rd_T26 l0 x4_1).pred) t103) = some r := H
      have A16 := am A160
      clear A160
      have H' := am H
      clear H
      try go_wp2
      replace HO_3 := am (Kd.N_drew HO_3.out)
      replace HO_107001 := am (Kd.R_drew HO_107001.out)
      replace BK106 := am (blk_drew BK106.out)
      replace HB := am (below_drew1 HB.out)
      obtain ⟨Ao18, co18, eo18⟩ := Kd.N_slice HO_3.out
      (first | subst eo18 | (injection eo18 with f1_ f2_ f3_; have f4_ := f1_.symm; have f5_ := f3_.symm; clear f1_ f2_ f3_; subst f4_; subst f5_))
      have p107 : 0 ≤ (x6_2 : Int) := dt_
      have q107 : x6_2 < (x3_1.length : Int) := dt_
      obtain ⟨ad107, A107_1, c107_1, e107, hx107_0, hx107_1, hl107_1, hi107_1⟩ := at_T26 (Kd.N_reads' HO_3.out).2.2 x6_2 p107 q107
      cases e107
      obtain ⟨ce107, hce107, hMe107, hcc107⟩ := Kd.N_get HO_3.out z26 x6_2 p107 (by first | exact q107 | exact dt_ | (have e_ := (Kd.N_reads' HO_3.out).1; omega))
      obtain ⟨ua107_1, uc107_1, rfl, ul107_1, ge107_1⟩ := k26_openF hMe107
      have hv107_1 := hcc107 1 _ rfl
      rw [add_field _ _ 1 (by omega)] at hv107_1
      replace hv107_1 := Option.some.inj (hv107_1.symm.trans hx107_1)
      injection hv107_1 with hva_ hvn_ hvc_
      rw [hva_] at ge107_1
      rw [hvc_] at ul107_1
      have HL107_1 := am (show Kd.V k36 36 _ w.heap.size _ _ ((rd_T26 x3_1 x6_2).args) from Kd.V_mk ul107_1 ge107_1)
      clear hva_ hvn_ hvc_ ge107_1 ul107_1
      clear hcc107 hce107
      have HR107_1 := am hi107_1
      have HC107_1 := am hl107_1
      clear hi107_1 hl107_1
      replace p107 := eq_true p107
      replace q107 := eq_true q107
      refine start_ (n := 13) (S := fun w' => w'.cell? ⟨gb106, 0, none⟩ = some (.string ((rd_T26 l0 x4_1).pred)) ∧ w'.cell? ⟨gb106, 1, none⟩ = some (.slice Ao10 t103.length co10) ∧ w'.cell? (ad107.add ((x6_2).toNat * 2)) = some (.string ((rd_T26 x3_1 x6_2).pred)) ∧ w'.cell? ⟨(ad107.add ((x6_2).toNat * 2)).block, (ad107.add ((x6_2).toNat * 2)).off + 1, none⟩ = some (.slice A107_1 ((rd_T26 x3_1 x6_2).args).length c107_1)) (ds := []) (bl 13 0) (by kernel_rfl) rfl rfl ⟨(blk_cell BK106.out 0).trans rfl, (blk_cell BK106.out 1).trans rfl, hx107_0, hx107_1⟩ (fun hHeld => ?_); refine with_tabW lambrequinref14_Sort.tab7 lambrequinref14_Sort.bits7 (fun HT_ HW_ => ?_)
      generalize wr.drew = w17 at HO_3 HO_107001 BK106 HB HL107_1 HR107_1 hx107_0 hx107_1 hHeld ⊢
      refine pu_ (i := 0) (N := some 26) (bl 13 1) rfl rfl (any_of HT_.out (by kernel_rfl)) ?_
      refine pu_ (i := 1) (N := some 27) (bl 13 3) rfl rfl (any_of HT_.out (by kernel_rfl)) ?_
      refine pu_ (i := 2) (N := some 28) (bl 13 7) rfl rfl (any_of HT_.out (by kernel_rfl)) ?_
      refine pu_ (i := 3) (N := some 29) (bl 13 15) rfl rfl (any_of HT_.out (by kernel_rfl)) ?_
      refine pu_ (i := 4) (N := some 30) (bl 13 31) rfl rfl (any_of HT_.out (by kernel_rfl)) ?_
      refine pu_ (i := 5) (N := some 31) (bl 13 63) rfl rfl (any_of HT_.out (by kernel_rfl)) ?_
      refine pu_ (i := 6) (N := some 32) (bl 13 127) rfl rfl (any_of HT_.out (by kernel_rfl)) ?_
      refine pu_ (i := 7) (N := some 33) (bl 13 255) rfl rfl (any_of HT_.out (by kernel_rfl)) ?_
      refine take_ (i := 8) (N := some 34) (v := ?_) (a' := ?_) (bl 13 511) rfl rfl (take_ofW HT_.out HW_.out (by kernel_rfl)) (fun _ _ _ h => h) (Or.inl ⟨by rfl, ?_⟩) hHeld ?_ ?_
      rotate_left
      ·rintro w' ⟨s0, s1, s2, s3⟩
       go_simp
       with_reducible rfl
      rotate_left
      ·simp only [Act.put, sA, sZ, sS, i64_w, i32_w]
       rfl
      refine take_ (i := 9) (N := some 35) (v := ?_) (a' := ?_) (bl 13 1023) rfl rfl (take_ofW HT_.out HW_.out (by kernel_rfl)) (fun _ _ _ h => h) (Or.inl ⟨by rfl, ?_⟩) hHeld ?_ ?_
      rotate_left
      ·rintro w' ⟨s0, s1, s2, s3⟩
       go_simp
       with_reducible rfl
      rotate_left
      ·simp only [Act.put, sA, sZ, sS, i64_w, i32_w]
       rfl
      refine one_ (i := 10) (N := some 36) (bl 13 2047) rfl rfl (one_of HT_.out (by kernel_rfl)) (by decide) (fun K hK => ?_)
      refine goes_ Tryz.func38 (by kernel_rfl) rfl #[.agg #[.string ((rd_T26 x3_1 x6_2).pred), .slice A107_1 ((rd_T26 x3_1 x6_2).args).length c107_1], .agg #[.string ((rd_T26 l0 x4_1).pred), .slice Ao10 t103.length co10]] (by rfl) rfl rfl gl_ ?_
      with_reducible refine (lambrequinref14_Compare.calls k2 ((rd_T26 x3_1 x6_2).pred) _ _ ((rd_T26 x3_1 x6_2).args) ((rd_T26 l0 x4_1).pred) _ _ t103 t108 _ ?side1 ?side2 ?side3 ?side4 A16.out).mono ?_
      (case side1 => repeat (first | exact (by repeat (first | (with_reducible exact HR107_1.out) | (with_reducible refine Kd.C_alloc ?_ _) | (with_reducible refine Kd.C_drewN ?_ _) | (with_reducible refine Kd.C_drew ?_) | exact HR107_1.out)) | (with_reducible refine Kd.C_alloc ?_ _) | (with_reducible refine Kd.C_drewN ?_ _) | (with_reducible refine Kd.C_drew ?_)))
      (case side2 => exact HC107_1.out)
      (case side3 => repeat (first | exact (Kd.R_reads' HO_107001.out).2.2 | (with_reducible refine Kd.C_alloc ?_ _) | (with_reducible refine Kd.C_drewN ?_ _) | (with_reducible refine Kd.C_drew ?_)))
      (case side4 => exact (Kd.R_reads' HO_107001.out).2.1)
      rintro e w19 ⟨rfl, hb⟩
      have HS2_ := (hb.cell (blt_ (hHeld.2.2.1))).trans (hHeld.2.2.1)
      have HS3_ := (hb.cell (blt_ (hHeld.2.2.2))).trans (hHeld.2.2.2)
      refine ⟨_, rfl, ?_⟩
      replace HO_3 := am (Kd.N_below (by (with_reducible repeat (first | apply Kd.N_alloc | apply Kd.N_drewN | apply Kd.N_drew)); exact HO_3.out) hb)
      replace HO_107001 := am (Rb_ HO_107001.out hb)
      replace HL107_1 := am (Kd.V_below (pV HL107_1.out) hb)
      replace BK106 := am (bb_ BK106.out hb)
      replace HR107_1 := am (Kd.C_below (by repeat (first | (with_reducible exact HR107_1.out) | (with_reducible refine Kd.C_alloc ?_ _) | (with_reducible refine Kd.C_drewN ?_ _) | (with_reducible refine Kd.C_drew ?_) | exact HR107_1.out)) hb)
      replace HB := am (bs_ HB.out hb)
      (try clear hb)
      (try clear hb2)
      (try clear hk)
      (try clear hi)
      refine hK.out _ _ ⟨(blk_cell BK106.out 0).trans rfl, (blk_cell BK106.out 1).trans rfl, HS2_, HS3_⟩ (fun hHeld => ?_)
      clear hK K
      refine norm_ (a' := ?_) ?_ ?_
      rotate_left
      ·show Act.put _ (some 36) _ = _
       simp only [Act.put, sA, sZ, sS, i64_w, i32_w]
       rfl
      refine pu_ (i := 11) (N := some 37) (bl 13 4095) rfl rfl (any_of HT_.out (by kernel_rfl)) ?_
      refine pu_ (i := 12) (N := some 38) (bl 13 8191) rfl rfl (any_of HT_.out (by kernel_rfl)) ?_
      refine done_ (done_of HT_.out (by kernel_rfl)) ?_
      try go_wp2
      go_meet
      case rel => exact ⟨_, (decide (t108 < 0)), rs_, H', ⟨by have := HK1.out; have := HK2.out; first | omega | exact Nat.le_refl _⟩, ⟨by (with_reducible repeat (first | apply Kd.N_alloc | apply Kd.N_drewN | apply Kd.N_drew)); exact HO_3.out⟩, ⟨pR HO_107001.out⟩, ⟨pB BK106.out⟩, ⟨pL HB.out⟩⟩
     case rest =>
      clear HC13
      try clear c1
      try clear p1
      try clear q1
      try clear hx1
      try clear c2
      try clear c2b0
      try clear p2
      try clear c3
      try clear c3b0
      try clear c10
      try clear p10
      try clear q10
      try clear hx10
      try clear c14
      try clear c14b0
      try clear c15
      try clear c15b0
      try clear hx101_0
      try clear hx101_1
      try clear hx102_0
      try clear hx102_1
      try clear hx107_0
      try clear hx107_1
      try clear p1
      try clear p10
      try clear p101
      try clear p102
      try clear p107
      try clear p2
      try clear q1
      try clear q10
      try clear q101
      try clear q102
      try clear q107
      obtain ⟨kq, x38_12, rfl, HA, HJ12, HO_3, HO_107001, BK106, HB⟩ := hcut
      cases kq with
      | zero => exact absurd HA.out (by simp [lambrequinref14_Sort.j2])
      | succ kj12 =>
       have H := HA.out
       clear HA
       simp only [lambrequinref14_Sort.j2] at H
       by_cases c22 : x38_12 = true
       ·subst c22
        have H1 : (lambrequinref14_Sort.l1 kj12 l0 x3_1 x4_1 (wrap64 (x6_2 + 1)) ((rd_T26 l0 x4_1).pred) t103) = some r := by rw [if_pos rfl] at H; exact H
        clear H
        have H := H1
        clear H1
        have H' := am H
        clear H
        go_wp2
        go_roundg kj12
        case measure => have := HK1.out; have := HK2.out; have := HJ12.out; omega
        case rel => exact ⟨(wrap64 (x6_2 + 1)), rs_, H', ⟨by have := HK1.out; have := HK2.out; have := HJ12.out; omega⟩, ⟨by (with_reducible repeat (first | apply Kd.N_alloc | apply Kd.N_drewN | apply Kd.N_drew)); exact HO_3.out⟩, ⟨pR HO_107001.out⟩, ⟨pB BK106.out⟩, ⟨pL HB.out⟩⟩
       replace c22 := Bool.eq_false_iff.mpr c22
       subst c22
       have H1 : (if x6_2 < (x3_1.length : Int) then (if 0 ≤ x6_2 then ((lambrequinref14_Compare.f kj12 ((rd_T26 x3_1 x6_2).pred) ((rd_T26 x3_1 x6_2).args) ((rd_T26 l0 x4_1).pred) t103).bind fun t110 => (lambrequinref14_Sort.j3 kj12 l0 x3_1 x4_1 x6_2 (t110 == 0) ((rd_T26 l0 x4_1).pred) t103)) else (none)) else (lambrequinref14_Sort.j3 kj12 l0 x3_1 x4_1 x6_2 false ((rd_T26 l0 x4_1).pred) t103)) = some r := by rw [if_neg (show ¬ (false = true) by decide)] at H; exact H
       clear H
       have H := H1
       clear H1
       have HC23 := am H
       clear H
       go_upto_region 9 with (fail)
       go_cut [53] (fun v53 wc => ∃ (kq : Nat) (x53_22 : Bool), v53 = .bool x53_22 ∧ Aside0 (lambrequinref14_Sort.j3 kq l0 x3_1 x4_1 x6_2 x53_22 ((rd_T26 l0 x4_1).pred) t103 = some r) ∧ Aside0 (kq ≤ kj12) ∧ Aside0 (Kd.N k26 26 wc w.heap.size (fun k_ => (w.heap.size ≤ k_) ∧ some k_ ≠ ((.slice Ao10 t103.length co10) : Value).ownBlock ∧ k_ ≠ gb106) u3 x3_1) ∧ Aside0 (Kd.R k36 36 wc w.heap.size (fun k_ => (w.heap.size ≤ k_)) (.slice Ao10 t103.length co10) t103) ∧ Aside0 (wc.heap[gb106]? = some (.cells #[.string ((rd_T26 l0 x4_1).pred), (.slice Ao10 t103.length co10)] 26 (0, 0))) ∧ Aside0 (Below w.heap.size w wc))
       case first =>
        have H := HC23.out
        clear HC23
        by_cases c24 : x6_2 < (x3_1.length : Int)
        rotate_left
        ·rw [if_neg c24] at H
         have c24b0 : decide (x6_2 < (x3_1.length : Int)) = false := decide_eq_false c24
         clear c24
         (first | rw [c24b0] | (simp only [i64_w, i32_w]; rw [c24b0]) | skip)
         have H' := am H
         clear H
         try go_wp2
         replace HO_3 := am (Kd.N_drew HO_3.out)
         replace HO_107001 := am (Kd.R_drew HO_107001.out)
         replace BK106 := am (blk_drew BK106.out)
         replace HB := am (below_drew1 HB.out)
         obtain ⟨Ao31, co31, eo31⟩ := Kd.N_slice HO_3.out
         (first | subst eo31 | (injection eo31 with f1_ f2_ f3_; have f4_ := f1_.symm; have f5_ := f3_.symm; clear f1_ f2_ f3_; subst f4_; subst f5_))
         refine start_ (n := 13) (S := fun w' => True) (ds := []) (bl 13 0) (by kernel_rfl) rfl rfl trivial (fun hHeld => ?_); refine with_tabW lambrequinref14_Sort.tab9 lambrequinref14_Sort.bits9 (fun HT_ HW_ => ?_)
         generalize wc.drew = w30 at HO_3 HO_107001 BK106 HB hHeld ⊢
         refine pu_ (i := 0) (N := some 41) (bl 13 1) rfl rfl (any_of HT_.out (by kernel_rfl)) ?_
         refine pu_ (i := 1) (N := some 42) (bl 13 3) rfl rfl (any_of HT_.out (by kernel_rfl)) ?_
         refine pu_ (i := 2) (N := some 43) (bl 13 7) rfl rfl (any_of HT_.out (by kernel_rfl)) ?_
         refine pu_ (i := 3) (N := some 44) (bl 13 15) rfl rfl (any_of HT_.out (by kernel_rfl)) ?_
         refine pu_ (i := 4) (N := some 45) (bl 13 31) rfl rfl (any_of HT_.out (by kernel_rfl)) ?_
         refine pure_ (i := 5) (N := some 46) (v := undef) (a' := ?_) (bl 13 63) rfl rfl (any_of HT_.out (by kernel_rfl)) (fun _ _ _ h => h) (Or.inr ⟨by rfl, rfl⟩) ?_ ?_
         rotate_left
         ·simp only [Act.put, sA, sZ, sS, i64_w, i32_w]
          rfl
         refine pure_ (i := 6) (N := some 47) (v := undef) (a' := ?_) (bl 13 127) rfl rfl (any_of HT_.out (by kernel_rfl)) (fun _ _ _ h => h) (Or.inr ⟨by rfl, rfl⟩) ?_ ?_
         rotate_left
         ·simp only [Act.put, sA, sZ, sS, i64_w, i32_w]
          rfl
         refine pure_ (i := 7) (N := some 48) (v := undef) (a' := ?_) (bl 13 255) rfl rfl (any_of HT_.out (by kernel_rfl)) (fun _ _ _ h => h) (Or.inr ⟨by rfl, rfl⟩) ?_ ?_
         rotate_left
         ·simp only [Act.put, sA, sZ, sS, i64_w, i32_w]
          rfl
         refine pure_ (i := 8) (N := some 49) (v := undef) (a' := ?_) (bl 13 511) rfl rfl (any_of HT_.out (by kernel_rfl)) (fun _ _ _ h => h) (Or.inr ⟨by rfl, rfl⟩) ?_ ?_
         rotate_left
         ·simp only [Act.put, sA, sZ, sS, i64_w, i32_w]
          rfl
         refine pure_ (i := 9) (N := some 50) (v := undef) (a' := ?_) (bl 13 1023) rfl rfl (any_of HT_.out (by kernel_rfl)) (fun _ _ _ h => h) (Or.inr ⟨by rfl, rfl⟩) ?_ ?_
         rotate_left
         ·simp only [Act.put, sA, sZ, sS, i64_w, i32_w]
          rfl
         refine pure_ (i := 10) (N := some 51) (v := undef) (a' := ?_) (bl 13 2047) rfl rfl (any_of HT_.out (by kernel_rfl)) (fun _ _ _ h => h) (Or.inr ⟨by rfl, rfl⟩) ?_ ?_
         rotate_left
         ·simp only [Act.put, sA, sZ, sS, i64_w, i32_w]
          rfl
         refine pure_ (i := 11) (N := some 52) (v := undef) (a' := ?_) (bl 13 4095) rfl rfl (any_of HT_.out (by kernel_rfl)) (fun _ _ _ h => h) (Or.inr ⟨by rfl, rfl⟩) ?_ ?_
         rotate_left
         ·simp only [Act.put, sA, sZ, sS, i64_w, i32_w]
          rfl
         refine pu_ (i := 12) (N := some 53) (bl 13 8191) rfl rfl (any_of HT_.out (by kernel_rfl)) ?_
         refine done_ (done_of HT_.out (by kernel_rfl)) ?_
         try go_wp2
         go_meet
         case rel => exact ⟨_, (false), rs_, H', ⟨by have := HK1.out; have := HK2.out; have := HJ12.out; first | omega | exact Nat.le_refl _⟩, ⟨by (with_reducible repeat (first | apply Kd.N_alloc | apply Kd.N_drewN | apply Kd.N_drew)); exact HO_3.out⟩, ⟨pR HO_107001.out⟩, ⟨pB BK106.out⟩, ⟨pL HB.out⟩⟩
        rw [if_pos c24] at H
        have c24b0 : decide (x6_2 < (x3_1.length : Int)) = true := decide_eq_true c24
        clear c24
        (first | rw [c24b0] | (simp only [i64_w, i32_w]; rw [c24b0]) | skip)
        by_cases c25 : 0 ≤ x6_2
        rotate_left
        ·rw [if_neg c25] at H
         exact absurd H (by simp)
        rw [if_pos c25] at H
        have c25b0 : decide (0 ≤ x6_2) = true := decide_eq_true c25
        clear c25
        replace H := Option.bind_eq_some_iff.mp H
        obtain ⟨t110, A260, H⟩ := H
        replace H : (lambrequinref14_Sort.j3 kj12 l0 x3_1 x4_1 x6_2 (t110 == 0) ((rd_T26 l0 x4_1).pred) t103) = some r := H
        have A26 := am A260
        clear A260
        have H' := am H
        clear H
        try go_wp2
        replace HO_3 := am (Kd.N_drew HO_3.out)
        replace HO_107001 := am (Kd.R_drew HO_107001.out)
        replace BK106 := am (blk_drew BK106.out)
        replace HB := am (below_drew1 HB.out)
        obtain ⟨Ao28, co28, eo28⟩ := Kd.N_slice HO_3.out
        (first | subst eo28 | (injection eo28 with f1_ f2_ f3_; have f4_ := f1_.symm; have f5_ := f3_.symm; clear f1_ f2_ f3_; subst f4_; subst f5_))
        have p109 : 0 ≤ (x6_2 : Int) := dt_
        have q109 : x6_2 < (x3_1.length : Int) := dt_
        obtain ⟨ad109, A109_1, c109_1, e109, hx109_0, hx109_1, hl109_1, hi109_1⟩ := at_T26 (Kd.N_reads' HO_3.out).2.2 x6_2 p109 q109
        cases e109
        obtain ⟨ce109, hce109, hMe109, hcc109⟩ := Kd.N_get HO_3.out z26 x6_2 p109 (by first | exact q109 | exact dt_ | (have e_ := (Kd.N_reads' HO_3.out).1; omega))
        obtain ⟨ua109_1, uc109_1, rfl, ul109_1, ge109_1⟩ := k26_openF hMe109
        have hv109_1 := hcc109 1 _ rfl
        rw [add_field _ _ 1 (by omega)] at hv109_1
        replace hv109_1 := Option.some.inj (hv109_1.symm.trans hx109_1)
        injection hv109_1 with hva_ hvn_ hvc_
        rw [hva_] at ge109_1
        rw [hvc_] at ul109_1
        have HL109_1 := am (show Kd.V k36 36 _ w.heap.size _ _ ((rd_T26 x3_1 x6_2).args) from Kd.V_mk ul109_1 ge109_1)
        clear hva_ hvn_ hvc_ ge109_1 ul109_1
        clear hcc109 hce109
        have HR109_1 := am hi109_1
        have HC109_1 := am hl109_1
        clear hi109_1 hl109_1
        replace p109 := eq_true p109
        replace q109 := eq_true q109
        refine start_ (n := 13) (S := fun w' => w'.cell? ⟨gb106, 0, none⟩ = some (.string ((rd_T26 l0 x4_1).pred)) ∧ w'.cell? ⟨gb106, 1, none⟩ = some (.slice Ao10 t103.length co10) ∧ w'.cell? (ad109.add ((x6_2).toNat * 2)) = some (.string ((rd_T26 x3_1 x6_2).pred)) ∧ w'.cell? ⟨(ad109.add ((x6_2).toNat * 2)).block, (ad109.add ((x6_2).toNat * 2)).off + 1, none⟩ = some (.slice A109_1 ((rd_T26 x3_1 x6_2).args).length c109_1)) (ds := []) (bl 13 0) (by kernel_rfl) rfl rfl ⟨(blk_cell BK106.out 0).trans rfl, (blk_cell BK106.out 1).trans rfl, hx109_0, hx109_1⟩ (fun hHeld => ?_); refine with_tabW lambrequinref14_Sort.tab9 lambrequinref14_Sort.bits9 (fun HT_ HW_ => ?_)
        generalize wc.drew = w27 at HO_3 HO_107001 BK106 HB HL109_1 HR109_1 hx109_0 hx109_1 hHeld ⊢
        refine pu_ (i := 0) (N := some 41) (bl 13 1) rfl rfl (any_of HT_.out (by kernel_rfl)) ?_
        refine pu_ (i := 1) (N := some 42) (bl 13 3) rfl rfl (any_of HT_.out (by kernel_rfl)) ?_
        refine pu_ (i := 2) (N := some 43) (bl 13 7) rfl rfl (any_of HT_.out (by kernel_rfl)) ?_
        refine pu_ (i := 3) (N := some 44) (bl 13 15) rfl rfl (any_of HT_.out (by kernel_rfl)) ?_
        refine pu_ (i := 4) (N := some 45) (bl 13 31) rfl rfl (any_of HT_.out (by kernel_rfl)) ?_
        refine pu_ (i := 5) (N := some 46) (bl 13 63) rfl rfl (any_of HT_.out (by kernel_rfl)) ?_
        refine pu_ (i := 6) (N := some 47) (bl 13 127) rfl rfl (any_of HT_.out (by kernel_rfl)) ?_
        refine pu_ (i := 7) (N := some 48) (bl 13 255) rfl rfl (any_of HT_.out (by kernel_rfl)) ?_
        refine take_ (i := 8) (N := some 49) (v := ?_) (a' := ?_) (bl 13 511) rfl rfl (take_ofW HT_.out HW_.out (by kernel_rfl)) (fun _ _ _ h => h) (Or.inl ⟨by rfl, ?_⟩) hHeld ?_ ?_
        rotate_left
        ·rintro w' ⟨s0, s1, s2, s3⟩
         go_simp
         with_reducible rfl
        rotate_left
        ·simp only [Act.put, sA, sZ, sS, i64_w, i32_w]
         rfl
        refine take_ (i := 9) (N := some 50) (v := ?_) (a' := ?_) (bl 13 1023) rfl rfl (take_ofW HT_.out HW_.out (by kernel_rfl)) (fun _ _ _ h => h) (Or.inl ⟨by rfl, ?_⟩) hHeld ?_ ?_
        rotate_left
        ·rintro w' ⟨s0, s1, s2, s3⟩
         go_simp
         with_reducible rfl
        rotate_left
        ·simp only [Act.put, sA, sZ, sS, i64_w, i32_w]
         rfl
        refine one_ (i := 10) (N := some 51) (bl 13 2047) rfl rfl (one_of HT_.out (by kernel_rfl)) (by decide) (fun K hK => ?_)
        refine goes_ Tryz.func38 (by kernel_rfl) rfl #[.agg #[.string ((rd_T26 x3_1 x6_2).pred), .slice A109_1 ((rd_T26 x3_1 x6_2).args).length c109_1], .agg #[.string ((rd_T26 l0 x4_1).pred), .slice Ao10 t103.length co10]] (by rfl) rfl rfl gl_ ?_
        with_reducible refine (lambrequinref14_Compare.calls kj12 ((rd_T26 x3_1 x6_2).pred) _ _ ((rd_T26 x3_1 x6_2).args) ((rd_T26 l0 x4_1).pred) _ _ t103 t110 _ ?side1 ?side2 ?side3 ?side4 A26.out).mono ?_
        (case side1 => repeat (first | exact (by repeat (first | (with_reducible exact HR109_1.out) | (with_reducible refine Kd.C_alloc ?_ _) | (with_reducible refine Kd.C_drewN ?_ _) | (with_reducible refine Kd.C_drew ?_) | exact HR109_1.out)) | (with_reducible refine Kd.C_alloc ?_ _) | (with_reducible refine Kd.C_drewN ?_ _) | (with_reducible refine Kd.C_drew ?_)))
        (case side2 => exact HC109_1.out)
        (case side3 => repeat (first | exact (Kd.R_reads' HO_107001.out).2.2 | (with_reducible refine Kd.C_alloc ?_ _) | (with_reducible refine Kd.C_drewN ?_ _) | (with_reducible refine Kd.C_drew ?_)))
        (case side4 => exact (Kd.R_reads' HO_107001.out).2.1)
        rintro e w29 ⟨rfl, hb⟩
        have HS2_ := (hb.cell (blt_ (hHeld.2.2.1))).trans (hHeld.2.2.1)
        have HS3_ := (hb.cell (blt_ (hHeld.2.2.2))).trans (hHeld.2.2.2)
        refine ⟨_, rfl, ?_⟩
        replace HO_3 := am (Kd.N_below (by (with_reducible repeat (first | apply Kd.N_alloc | apply Kd.N_drewN | apply Kd.N_drew)); exact HO_3.out) hb)
        replace HO_107001 := am (Rb_ HO_107001.out hb)
        replace HL109_1 := am (Kd.V_below (pV HL109_1.out) hb)
        replace BK106 := am (bb_ BK106.out hb)
        replace HR109_1 := am (Kd.C_below (by repeat (first | (with_reducible exact HR109_1.out) | (with_reducible refine Kd.C_alloc ?_ _) | (with_reducible refine Kd.C_drewN ?_ _) | (with_reducible refine Kd.C_drew ?_) | exact HR109_1.out)) hb)
        replace HB := am (bs_ HB.out hb)
        (try clear hb)
        (try clear hb2)
        (try clear hk)
        (try clear hi)
        refine hK.out _ _ ⟨(blk_cell BK106.out 0).trans rfl, (blk_cell BK106.out 1).trans rfl, HS2_, HS3_⟩ (fun hHeld => ?_)
        clear hK K
        refine norm_ (a' := ?_) ?_ ?_
        rotate_left
        ·show Act.put _ (some 51) _ = _
         simp only [Act.put, sA, sZ, sS, i64_w, i32_w]
         rfl
        refine pu_ (i := 11) (N := some 52) (bl 13 4095) rfl rfl (any_of HT_.out (by kernel_rfl)) ?_
        refine pu_ (i := 12) (N := some 53) (bl 13 8191) rfl rfl (any_of HT_.out (by kernel_rfl)) ?_
        refine done_ (done_of HT_.out (by kernel_rfl)) ?_
        try go_wp2
        go_meet
        case rel => exact ⟨_, ((t110 == 0)), rs_, H', ⟨by have := HK1.out; have := HK2.out; have := HJ12.out; first | omega | exact Nat.le_refl _⟩, ⟨by (with_reducible repeat (first | apply Kd.N_alloc | apply Kd.N_drewN | apply Kd.N_drew)); exact HO_3.out⟩, ⟨pR HO_107001.out⟩, ⟨pB BK106.out⟩, ⟨pL HB.out⟩⟩
       case rest =>
        clear HC23
        try clear c1
        try clear p1
        try clear q1
        try clear hx1
        try clear c2
        try clear c2b0
        try clear p2
        try clear c3
        try clear c3b0
        try clear p6
        try clear c10
        try clear p10
        try clear q10
        try clear hx10
        try clear c14
        try clear c14b0
        try clear c15
        try clear c15b0
        try clear c22
        try clear c24
        try clear c24b0
        try clear c25
        try clear c25b0
        try clear hx101_0
        try clear hx101_1
        try clear hx102_0
        try clear hx102_1
        try clear hx107_0
        try clear hx107_1
        try clear hx109_0
        try clear hx109_1
        try clear p1
        try clear p10
        try clear p101
        try clear p102
        try clear p107
        try clear p109
        try clear p2
        try clear q1
        try clear q10
        try clear q101
        try clear q102
        try clear q107
        try clear q109
        obtain ⟨kq, x53_22, rfl, HA, HJ22, HO_3, HO_107001, BK106, HB⟩ := hcut
        cases kq with
        | zero => exact absurd HA.out (by simp [lambrequinref14_Sort.j3])
        | succ kj22 =>
         have H := HA.out
         clear HA
         simp only [lambrequinref14_Sort.j3] at H
         by_cases c32 : x53_22 = true
         ·subst c32
          have H1 : (lambrequinref14_Sort.l0 kj22 l0 x3_1 (wrap64 (x4_1 + 1))) = some r := by rw [if_pos rfl] at H; exact H
          clear H
          have H := H1
          clear H1
          have H' := am H
          clear H
          go_wp2
          go_roundg kj22
          case measure => have := HK1.out; have := HK2.out; have := HJ12.out; have := HJ22.out; omega
          case rel => exact ⟨(x3_1), (wrap64 (x4_1 + 1)), rs_, H', ⟨by have := HK1.out; have := HK2.out; have := HJ12.out; have := HJ22.out; omega⟩, ⟨by (with_reducible repeat (first | apply Kd.N_alloc | apply Kd.N_drewN | apply Kd.N_drew)); exact Kd.N_mono HO_3.out (fun _ hk => hk.1)⟩, ⟨pL HB.out⟩⟩
         replace c32 := Bool.eq_false_iff.mpr c32
         subst c32
         have H1 : ((some (([] : List (Fact)) : List (Fact))).bind fun y111 => (if 0 ≤ x6_2 then (if x6_2 ≤ (x3_1.length : Int) then ((some (x3_1.take (x6_2 : Int).toNat : List (Fact))).bind fun y114 => (if y111.length + y114.length < 3518437208883 then ((some (y111 ++ y114 : List (Fact))).bind fun y119 => (if y119.length < 3518437208883 then ((some (y119 ++ [(⟨((rd_T26 l0 x4_1).pred), t103⟩ : Fact)] : List (Fact))).bind fun y122 => ((some (x3_1.drop (x6_2 : Int).toNat : List (Fact))).bind fun y125 => (if y122.length + y125.length < 3518437208883 then (lambrequinref14_Sort.l0 kj22 l0 (y122 ++ y125) (wrap64 (x4_1 + 1))) else (none)))) else (none))) else (none))) else (none)) else (none))) = some r := by rw [if_neg (show ¬ (false = true) by decide)] at H; exact H
         clear H
         have H := H1
         clear H1
         obtain ⟨y111, hy111⟩ : ∃ y_ : List (Fact), y_ = (([] : List (Fact))) := ⟨_, rfl⟩
         replace H : (if 0 ≤ x6_2 then (if x6_2 ≤ (x3_1.length : Int) then ((some (x3_1.take (x6_2 : Int).toNat : List (Fact))).bind fun y114 => (if y111.length + y114.length < 3518437208883 then ((some (y111 ++ y114 : List (Fact))).bind fun y119 => (if y119.length < 3518437208883 then ((some (y119 ++ [(⟨((rd_T26 l0 x4_1).pred), t103⟩ : Fact)] : List (Fact))).bind fun y122 => ((some (x3_1.drop (x6_2 : Int).toNat : List (Fact))).bind fun y125 => (if y122.length + y125.length < 3518437208883 then (lambrequinref14_Sort.l0 kj22 l0 (y122 ++ y125) (wrap64 (x4_1 + 1))) else (none)))) else (none))) else (none))) else (none)) else (none)) = some r := by first | (rw [hy111]; with_reducible exact H) | (have H2_ := (Option.bind_some _ _).symm.trans H; rw [hy111]; with_reducible exact H2_) | (have H2_ := (Option.bind_some _ _).symm.trans H; with_reducible exact H2_) | with_reducible exact H | (rw [hy111]; exact H) | exact H
         have Ny111 := am hy111
         clear hy111
         by_cases c33 : 0 ≤ x6_2
         rotate_left
         ·rw [if_neg c33] at H
          exact absurd H (by simp)
         rw [if_pos c33] at H
         have c33b0 := eq_true c33
         have c33b1 : decide (0 ≤ x6_2) = true := decide_eq_true c33
         clear c33
         by_cases c34 : x6_2 ≤ (x3_1.length : Int)
         rotate_left
         ·rw [if_neg c34] at H
          exact absurd H (by simp)
         rw [if_pos c34] at H
         have c34b0 := eq_true c34
         have c34b1 : decide (x6_2 ≤ (x3_1.length : Int)) = true := decide_eq_true c34
         clear c34
         obtain ⟨y114, hy114⟩ : ∃ y_ : List (Fact), y_ = (x3_1.take (x6_2 : Int).toNat) := ⟨_, rfl⟩
         replace H : (if y111.length + y114.length < 3518437208883 then ((some (y111 ++ y114 : List (Fact))).bind fun y119 => (if y119.length < 3518437208883 then ((some (y119 ++ [(⟨((rd_T26 l0 x4_1).pred), t103⟩ : Fact)] : List (Fact))).bind fun y122 => ((some (x3_1.drop (x6_2 : Int).toNat : List (Fact))).bind fun y125 => (if y122.length + y125.length < 3518437208883 then (lambrequinref14_Sort.l0 kj22 l0 (y122 ++ y125) (wrap64 (x4_1 + 1))) else (none)))) else (none))) else (none)) = some r := by first | (rw [hy114]; with_reducible exact H) | (have H2_ := (Option.bind_some _ _).symm.trans H; rw [hy114]; with_reducible exact H2_) | (have H2_ := (Option.bind_some _ _).symm.trans H; with_reducible exact H2_) | with_reducible exact H | (rw [hy114]; exact H) | exact H
         have Ny114 := am hy114
         clear hy114
         by_cases c35 : y111.length + y114.length < 3518437208883
         rotate_left
         ·rw [if_neg c35] at H
          exact absurd H (by simp)
         rw [if_pos c35] at H
         have LMc35 := am c35
         clear c35
         obtain ⟨y119, hy119⟩ : ∃ y_ : List (Fact), y_ = (y111 ++ y114) := ⟨_, rfl⟩
         replace H : (if y119.length < 3518437208883 then ((some (y119 ++ [(⟨((rd_T26 l0 x4_1).pred), t103⟩ : Fact)] : List (Fact))).bind fun y122 => ((some (x3_1.drop (x6_2 : Int).toNat : List (Fact))).bind fun y125 => (if y122.length + y125.length < 3518437208883 then (lambrequinref14_Sort.l0 kj22 l0 (y122 ++ y125) (wrap64 (x4_1 + 1))) else (none)))) else (none)) = some r := by first | (rw [hy119]; with_reducible exact H) | (have H2_ := (Option.bind_some _ _).symm.trans H; rw [hy119]; with_reducible exact H2_) | (have H2_ := (Option.bind_some _ _).symm.trans H; with_reducible exact H2_) | with_reducible exact H | (rw [hy119]; exact H) | exact H
         have Ny119 := am hy119
         clear hy119
         by_cases c36 : y119.length < 3518437208883
         ·rw [if_pos c36] at H
          have LMc36 := am c36
          clear c36
          obtain ⟨y122, hy122⟩ : ∃ y_ : List (Fact), y_ = (y119 ++ [(⟨((rd_T26 l0 x4_1).pred), t103⟩ : Fact)]) := ⟨_, rfl⟩
          replace H : ((some (x3_1.drop (x6_2 : Int).toNat : List (Fact))).bind fun y125 => (if y122.length + y125.length < 3518437208883 then (lambrequinref14_Sort.l0 kj22 l0 (y122 ++ y125) (wrap64 (x4_1 + 1))) else (none))) = some r := by first | (rw [hy122]; with_reducible exact H) | (have H2_ := (Option.bind_some _ _).symm.trans H; rw [hy122]; with_reducible exact H2_) | (have H2_ := (Option.bind_some _ _).symm.trans H; with_reducible exact H2_) | with_reducible exact H | (rw [hy122]; exact H) | exact H
          have Ny122 := am hy122
          clear hy122
          have c37b0 := eq_true (dt_ : 0 ≤ x6_2)
          have c38b0 := eq_true (dt_ : x6_2 ≤ (x3_1.length : Int))
          obtain ⟨y125, hy125⟩ : ∃ y_ : List (Fact), y_ = (x3_1.drop (x6_2 : Int).toNat) := ⟨_, rfl⟩
          replace H : (if y122.length + y125.length < 3518437208883 then (lambrequinref14_Sort.l0 kj22 l0 (y122 ++ y125) (wrap64 (x4_1 + 1))) else (none)) = some r := by first | (rw [hy125]; with_reducible exact H) | (have H2_ := (Option.bind_some _ _).symm.trans H; rw [hy125]; with_reducible exact H2_) | (have H2_ := (Option.bind_some _ _).symm.trans H; with_reducible exact H2_) | with_reducible exact H | (rw [hy125]; exact H) | exact H
          have Ny125 := am hy125
          clear hy125
          by_cases c39 : y122.length + y125.length < 3518437208883
          ·rw [if_pos c39] at H
           have LMc39 := am c39
           clear c39
           obtain ⟨y130, hy130⟩ : ∃ y_ : List (Fact), y_ = (y122 ++ y125) := ⟨_, rfl⟩
           replace H : (lambrequinref14_Sort.l0 kj22 l0 y130 (wrap64 (x4_1 + 1))) = some r := by first | (rw [hy130]; with_reducible exact H) | (have H2_ := (Option.bind_some _ _).symm.trans H; rw [hy130]; with_reducible exact H2_) | (have H2_ := (Option.bind_some _ _).symm.trans H; with_reducible exact H2_) | with_reducible exact H | (rw [hy130]; exact H) | exact H
           have Ny130 := am hy130
           clear hy130
           have H' := am H
           clear H
           go_wp2_with (first | ((with_reducible refine gate_dst (N := 54) rfl ?_); refine Kd.N_lit k26 _ 26 ?hg (N' := 54) ?hd (xs := ([] : List (Fact))) (inner := []) (ok := (fun k_ => (w.heap.size ≤ k_) ∧ some k_ ≠ (u3 : Value).ownBlock ∧ some k_ ≠ (.slice Ao10 t103.length co10 : Value).ownBlock ∧ k_ ≠ gb106)) (okp := (fun k_ => (w.heap.size ≤ k_) ∧ some k_ ≠ (u3 : Value).ownBlock ∧ some k_ ≠ (.slice Ao10 t103.length co10 : Value).ownBlock ∧ k_ ≠ gb106)) ?hr ?hp (fun _ hk => hk) ((show ∀ k_, wc.heap.size ≤ k_ → (fun k_ => (w.heap.size ≤ k_) ∧ some k_ ≠ (u3 : Value).ownBlock ∧ some k_ ≠ (.slice Ao10 t103.length co10 : Value).ownBlock ∧ k_ ≠ gb106) k_ from fun k_ hk => ⟨(Nat.le_trans (below_size (pL HB.out)) hk), Kd.fresh' (Kd.N_lt (by (with_reducible repeat (first | apply Kd.N_alloc | apply Kd.N_drewN | apply Kd.N_drew)); exact HO_3.out)) k_ hk, Kd.fresh' (Kd.R_lt (pR HO_107001.out)) k_ hk, Kd.freshB (g := gb106) (pB BK106.out) k_ hk⟩) _ (Nat.le_refl _)) (Below.refl _ _) (Nat.le_refl _) (by simp) ?_; (case hd => rfl); (case hg => rfl); (case hr => first | (go_simp; done) | (go_simp; rfl)); (case hp => exact (Reps.none _ _)); intro v112 w40 ho41 hb hg_ hnew_; clear hg_ hnew_; (first | rw [← Ny111.out] at ho41 | (simp only [Int.reduceToNat] at ho41; rw [← Ny111.out] at ho41)); replace HO_3 := am (Kd.N_elder' (by (with_reducible repeat (first | apply Kd.N_alloc | apply Kd.N_drewN | apply Kd.N_drew)); exact HO_3.out) (Kd.N_base ho41) hb); replace HO_107001 := am (Rb_ HO_107001.out hb); have HO113 := am (Kd.N_lower ho41 (below_size (pL HB.out))); replace BK106 := am (bb_ BK106.out hb); replace HB := am (bs_ HB.out hb); clear hb ho41; obtain ⟨Ao43, co43, eo43⟩ := Kd.N_slice HO_3.out; subst eo43; have q42 : (x6_2 : Int) ≤ ((x3_1.length : Int) : Int) := dt_; obtain ⟨i042, hi042, _, hsz42, _⟩ := info_parts info26; have hroom42 : x3_1.length ≤ co43 := (Kd.N_reads' HO_3.out).2.1; have hC42 : Kd.F k26 _ _ Ao43 x3_1.length x3_1 := (Kd.V_at (base := w.heap.size) (Kd.N_V HO_3.out)).2.2; have hcut42 := cut_to (P := Tryz.prog) 23 26 .i64 Tryz.underlying23 hi042 Ao43 x3_1.length co43 x6_2 (dt_) q42 hroom42; have hr42 := Kd.F_take (m := (x6_2 : Int).toNat) hC42 (by omega); have hy42 : y114.length = (x6_2 : Int).toNat := (by rw [Ny114.out, List.length_take]; omega); rw [← Ny114.out] at hr42; rw [← hy42] at hcut42; have HO118 := am (show Kd.V k26 26 _ w.heap.size _ (.slice Ao43 y114.length co43) y114 from Kd.V_mk (by omega) hr42); have HC118 := am (show y114.length ≤ co43 from by omega); clear hr42 hC42 hroom42 hi042 hsz42; have KY42 := am hy42; clear hy42; replace q42 := eq_true q42) | ((with_reducible refine gate_builtin (b := .append) (xs := #[.tmp 54, .tmp 57]) rfl ?_); at_builtin; refine Kd.N_append_rows k26 (w0 := w) w.heap.size rfl (.tmp 54) (.tmp 57) 23 26 (.agg #[(.string ⟨#[]⟩), (.slice none 0 0)]) 40 rfl Tryz.underlying23 info26 rfl (by decide) (by omega) v112 y111 y114 _ _ _ (fun k_ => (w.heap.size ≤ k_) ∧ some k_ ≠ (.slice Ao10 t103.length co10 : Value).ownBlock ∧ k_ ≠ gb106) (fun k_ => ((fun k_ => (w.heap.size ≤ k_) ∧ some k_ ≠ (.slice Ao10 t103.length co10 : Value).ownBlock ∧ k_ ≠ gb106)) k_ ∧ some k_ ≠ (v112 : Value).ownBlock) rfl rfl ?aO ?aR (fun _ hk => hk) ?aF ?aB ?aS ?aL ?_; (case aR => exact (by skip; exact Kd.V_F (Kd.V_mono (ok' := (fun k_ => ((fun k_ => (w.heap.size ≤ k_) ∧ some k_ ≠ (.slice Ao10 t103.length co10 : Value).ownBlock ∧ k_ ≠ gb106)) k_ ∧ some k_ ≠ (v112 : Value).ownBlock)) (HO118.out) (fun k_ hk => ⟨⟨hk.1.1, ⟨hk.1.2.1, hk.1.2.2⟩⟩, hk.2⟩)))); (case aB => exact (pL HB.out)); (case aF => exact (fun k_ hk => ⟨(Nat.le_trans (below_size (pL HB.out)) hk), Kd.fresh' (Kd.R_lt (pR HO_107001.out)) k_ hk, Kd.freshB (g := gb106) (pB BK106.out) k_ hk⟩)); (case aO => exact (by (with_reducible repeat (first | apply Kd.N_alloc | apply Kd.N_drewN | apply Kd.N_drew)); exact Kd.N_mono HO113.out (fun _ hk => ⟨hk.1, ⟨hk.2.2.1, hk.2.2.2⟩⟩))); (case aS => exact (below_size (pL HB.out))); (case aL => have := LMc35.out; omega); intro v120 w44 ho hb hg hat; rw [← Ny119.out] at ho; replace HO_3 := am (Kd.N_afterv (ok := (fun k_ => (w.heap.size ≤ k_) ∧ some k_ ≠ (.slice Ao10 t103.length co10 : Value).ownBlock ∧ k_ ≠ gb106)) (by (with_reducible repeat (first | apply Kd.N_alloc | apply Kd.N_drewN | apply Kd.N_drew)); exact HO_3.out) hg hat); replace HO_107001 := am (Kd.R_over' (pR HO_107001.out) (Kd.N_typed (by (with_reducible repeat (first | apply Kd.N_alloc | apply Kd.N_drewN | apply Kd.N_drew)); exact HO113.out)) (by decide) hg); replace BK106 := am (blk_grown (pB BK106.out) hg (Kd.N_away HO113.out (fun _ hk => hk.2.2.2))); replace HO118 := am (Kd.V_afterv (ok := (fun k_ => (w.heap.size ≤ k_) ∧ some k_ ≠ (.slice Ao10 t103.length co10 : Value).ownBlock ∧ k_ ≠ gb106)) (pV HO118.out) hg hat); replace HB := am (hb); have HO121 := am (ho); clear HO113; clear ho hb hg hat; obtain ⟨hcz45_0, hcz45_1, hfz45_0, hfz45_1⟩ := bc2 BK106.out) | ((with_reducible refine gate_builtin (b := .append) (xs := #[.tmp 59, .tmp 61]) rfl ?_); at_builtin; refine Kd.N_append k26 (w0 := w) w.heap.size rfl (.tmp 59) (.tmp 61) 23 26 (.agg #[(.string ⟨#[]⟩), (.slice none 0 0)]) 40 rfl Tryz.underlying23 info26 rfl (by decide) (by omega) v120 y119 (⟨((rd_T26 l0 x4_1).pred), t103⟩ : Fact) [.string ((rd_T26 l0 x4_1).pred), .slice Ao10 t103.length co10] (fun k_ => (w.heap.size ≤ k_) ∧ k_ ≠ gb106) (fun k_ => ((fun k_ => (w.heap.size ≤ k_) ∧ k_ ≠ gb106)) k_ ∧ some k_ ≠ (v120 : Value).ownBlock) rfl rfl ?aP (fun _ hk => hk) ?aF ?aO ?aB ?aS ?aL ?_; (case aP => exact (k26_mkF _ _ (⟨((rd_T26 l0 x4_1).pred), t103⟩ : Fact) (Kd.R_reads' (Kd.R_mono (ok' := (fun k_ => ((fun k_ => (w.heap.size ≤ k_) ∧ k_ ≠ gb106)) k_ ∧ some k_ ≠ (v120 : Value).ownBlock)) (Kd.R_types (Kd.R_apart' (HO_107001.out) (Kd.N_typed HO121.out) (by decide)) BK106.out (by decide)) (fun k_ hk => ⟨⟨hk.1.1, hk.2⟩, hk.1.2⟩))).2.1 (Kd.R_F (Kd.R_mono (ok' := (fun k_ => ((fun k_ => (w.heap.size ≤ k_) ∧ k_ ≠ gb106)) k_ ∧ some k_ ≠ (v120 : Value).ownBlock)) (Kd.R_types (Kd.R_apart' (HO_107001.out) (Kd.N_typed HO121.out) (by decide)) BK106.out (by decide)) (fun k_ hk => ⟨⟨hk.1.1, hk.2⟩, hk.1.2⟩))))); (case aB => exact (pL HB.out)); (case aF => exact (fun k_ hk => ⟨(Nat.le_trans (below_size (pL HB.out)) hk), Kd.freshB (g := gb106) (pB BK106.out) k_ hk⟩)); (case aO => exact (by (with_reducible repeat (first | apply Kd.N_alloc | apply Kd.N_drewN | apply Kd.N_drew)); exact Kd.N_mono HO121.out (fun _ hk => ⟨hk.1, hk.2.2⟩))); (case aS => exact (below_size (pL HB.out))); (case aL => have := LMc36.out; omega); intro v123 w46 ho hb hg hat; rw [← Ny122.out] at ho; replace HO_3 := am (Kd.N_afterv (ok := (fun k_ => (w.heap.size ≤ k_) ∧ some k_ ≠ (.slice Ao10 t103.length co10 : Value).ownBlock ∧ k_ ≠ gb106)) (by (with_reducible repeat (first | apply Kd.N_alloc | apply Kd.N_drewN | apply Kd.N_drew)); exact HO_3.out) hg hat); replace BK106 := am (blk_grown (pB BK106.out) hg (Kd.N_away HO121.out (fun _ hk => hk.2.2))); replace HO118 := am (Kd.V_afterv (ok := (fun k_ => (w.heap.size ≤ k_) ∧ some k_ ≠ (.slice Ao10 t103.length co10 : Value).ownBlock ∧ k_ ≠ gb106)) (pV HO118.out) hg hat); replace HB := am (hb); have HO124 := am (ho); clear HO121 HO_107001; clear ho hb hg hat; have q47 : (x6_2 : Int) ≤ ((x3_1.length : Int) : Int) := dt_; obtain ⟨i047, hi047, _, hsz47, _⟩ := info_parts info26; have hroom47 : x3_1.length ≤ co43 := (Kd.N_reads' HO_3.out).2.1; have hC47 : Kd.F k26 _ _ Ao43 x3_1.length x3_1 := (Kd.V_at (base := w.heap.size) (Kd.N_V HO_3.out)).2.2; have q047 : (0 : Int) ≤ (x6_2 : Int) := dt_; have hcut47 := cut_from (P := Tryz.prog) 23 26 .i64 Tryz.underlying23 hi047 2 hsz47 Ao43 x3_1.length co43 x6_2 q047 q47; have hr47 := Kd.F_cut (m := (x6_2 : Int).toNat) (c := co43) hC47 (by omega) hroom47; obtain ⟨A47, hA47⟩ : ∃ A1, A1 = (if co43 = (x6_2 : Int).toNat then Ao43 else (Ao43 : Option Addr).map (·.add ((x6_2 : Int).toNat * 2))) := ⟨_, rfl⟩; obtain ⟨c47, hc47⟩ : ∃ c1, c1 = co43 - (x6_2 : Int).toNat := ⟨_, rfl⟩; have hy47 : y125.length = x3_1.length - (x6_2 : Int).toNat := (by rw [Ny125.out, List.length_drop] <;> omega); rw [show (x3_1).drop (x6_2 : Int).toNat = y125 from Ny125.out.symm] at hr47; replace hr47 : Kd.F k26 _ _ A47 y125.length y125 := (by rw [hA47]; exact hr47); rw [← hy47, ← hA47, ← hc47] at hcut47; have HO129 := am (show Kd.V k26 26 _ w.heap.size _ (.slice A47 y125.length c47) y125 from Kd.V_mk (by rw [hy47, hc47]; exact Nat.sub_le_sub_right hroom47 _) hr47); have HC129 := am (show y125.length ≤ c47 from by rw [hy47, hc47]; exact Nat.sub_le_sub_right hroom47 _); clear hr47 hC47 hroom47 hi047 hsz47 hc47; have KY47 := am hy47; have KA47 := am hA47; clear hy47 hA47; replace q47 := eq_true q47) | ((with_reducible refine gate_builtin (b := .append) (xs := #[.tmp 63, .tmp 66]) rfl ?_); at_builtin; refine Kd.N_append_rows k26 (w0 := w) w.heap.size rfl (.tmp 63) (.tmp 66) 23 26 (.agg #[(.string ⟨#[]⟩), (.slice none 0 0)]) 40 rfl Tryz.underlying23 info26 rfl (by decide) (by omega) v123 y122 y125 _ _ _ (fun k_ => (w.heap.size ≤ k_) ∧ k_ ≠ gb106) (fun k_ => ((fun k_ => (w.heap.size ≤ k_) ∧ k_ ≠ gb106)) k_ ∧ some k_ ≠ (v123 : Value).ownBlock) rfl rfl ?aO ?aR (fun _ hk => hk) ?aF ?aB ?aS ?aL ?_; (case aR => exact (by skip; exact Kd.V_F (Kd.V_mono (ok' := (fun k_ => ((fun k_ => (w.heap.size ≤ k_) ∧ k_ ≠ gb106)) k_ ∧ some k_ ≠ (v123 : Value).ownBlock)) (HO129.out) (fun k_ hk => ⟨⟨hk.1.1, hk.1.2.2⟩, hk.2⟩)))); (case aB => exact (pL HB.out)); (case aF => exact (fun k_ hk => ⟨(Nat.le_trans (below_size (pL HB.out)) hk), Kd.freshB (g := gb106) (pB BK106.out) k_ hk⟩)); (case aO => exact (by (with_reducible repeat (first | apply Kd.N_alloc | apply Kd.N_drewN | apply Kd.N_drew)); exact HO124.out)); (case aS => exact (below_size (pL HB.out))); (case aL => have := LMc39.out; omega); intro v131 w48 ho hb hg hat; rw [← Ny130.out] at ho; replace HO_3 := am (Kd.N_afterv (ok := (fun k_ => (w.heap.size ≤ k_) ∧ k_ ≠ gb106)) (by (with_reducible repeat (first | apply Kd.N_alloc | apply Kd.N_drewN | apply Kd.N_drew)); exact Kd.N_mono HO_3.out (fun _ hk => ⟨⟨hk.1.1, hk.1.2.2⟩, hk.2⟩)) hg hat); replace BK106 := am (blk_grown (pB BK106.out) hg (Kd.N_away HO124.out (fun _ hk => hk.2))); replace HO118 := am (Kd.V_afterv (ok := (fun k_ => (w.heap.size ≤ k_) ∧ k_ ≠ gb106)) (by (with_reducible repeat (first | apply Va | apply Vn | apply Vd)); exact Kd.V_mono HO118.out (fun _ hk => ⟨⟨hk.1.1, hk.1.2.2⟩, hk.2⟩)) hg hat); replace HO129 := am (Kd.V_afterv (ok := (fun k_ => (w.heap.size ≤ k_) ∧ k_ ≠ gb106)) (by (with_reducible repeat (first | apply Va | apply Vn | apply Vd)); exact Kd.V_mono HO129.out (fun _ hk => ⟨⟨hk.1.1, hk.1.2.2⟩, hk.2⟩)) hg hat); replace HB := am (hb); have HO132 := am (ho); clear HO124; clear ho hb hg hat))
           go_roundg kj22
           case measure => have := HK1.out; have := HK2.out; have := HJ12.out; have := HJ22.out; omega
           case rel => exact ⟨(y130), (wrap64 (x4_1 + 1)), rs_, H', ⟨by have := HK1.out; have := HK2.out; have := HJ12.out; have := HJ22.out; omega⟩, ⟨by (with_reducible repeat (first | apply Kd.N_alloc | apply Kd.N_drewN | apply Kd.N_drew)); exact Kd.N_mono HO132.out (fun _ hk => hk.1)⟩, ⟨pL HB.out⟩⟩
          rw [if_neg c39] at H
          exact absurd H (by simp)
         rw [if_neg c36] at H
         exact absurd H (by simp)
theorem eqA36 (d : Nat) (w : World) (x0 y0 : Bool) (x1 y1 : ByteArray) (x2 y2 : Int) :
  (Op.equalIn (d + 2) 36 (.agg #[.bool x0, .string x1, .int .i64 x2]) (.agg #[.bool y0, .string y1, .int .i64 y2])).run Tryz.prog w = .ok (x0 == y0 && (x1.toList == y1.toList && (x2 == y2))) w := by
 refine eqA_of Tryz.underlying36 (by kernel_rfl) ?_
 refine eqf_cons (by rfl) (by go_simp; rfl) (by go_simp; rfl) (by go_simp) ?_
 refine eqf_cons (by rfl) (by go_simp; rfl) (by go_simp; rfl) (by go_simp) ?_
 exact eqf_last (by rfl) (by go_simp; rfl) (by go_simp; rfl) (by go_simp)
end Go.Proofs.YtoekfmdcplphmaaGreat.H
namespace Go.Proofs.YtoekfmdcplphmaaGreat.H
open Go.RowKit Go.Proofs.YtoekfmdcplphmaaGreatW.PrintWords Go.Proofs.YtoekfmdcplphmaaGreatW.PrintLast Go.Proofs.YtoekfmdcplphmaaGreatW.PrintMore
attribute [local go_sem] max2_int min2_int max_two min_two max_three min_three max_four min_four
attribute [local go_sem high] eqA36
def lambrequinref03_Same.l0 : Nat → List (Val) → List (Val) → Int → Option (Bool)
 | 0, _, _, _ => none
 | k + 1, x0, x1, x5 => if x5 < (x0.length : Int) then (if 0 ≤ x5 then (if x5 < (x1.length : Int) then (if (!(((rd_T36 x0 x5).isSym) == ((rd_T36 x1 x5).isSym)) || (!((((rd_T36 x0 x5).sym).toList) == (((rd_T36 x1 x5).sym).toList)) || (!(((rd_T36 x0 x5).n) == ((rd_T36 x1 x5).n))))) = true then (some false) else (lambrequinref03_Same.l0 k x0 x1 (wrap64 (x5 + 1)))) else (none)) else (none)) else (some true)
def lambrequinref03_Same.f (k : Nat) (l0 : List (Val)) (l1 : List (Val)) : Option (Bool) := if (l0.length : Int) = (l1.length : Int) then (lambrequinref03_Same.l0 k l0 l1 0) else (some false)
theorem lambrequinref03_Same.mono_l : ∀ k, (∀ y0 y1 y2, LeO (lambrequinref03_Same.l0 k y0 y1 y2) (lambrequinref03_Same.l0 (k + 1) y0 y1 y2))
 | 0 => fun _ _ _ r h => by simp [lambrequinref03_Same.l0] at h
 | k + 1 => by
  have ih0 := lambrequinref03_Same.mono_l k
  intro y0 y1 y2
  unfold lambrequinref03_Same.l0
  repeat' first
  | (with_reducible exact ih0 _ _ _)
  | (with_reducible exact LeO.refl _)
  | (with_reducible exact LeO.none _)
  | (with_reducible refine LeO.ite ?_ ?_)
  | (with_reducible refine LeO.bind ?_ (fun _ => ?_))
  | exact ih0 _ _ _
  | exact LeO.none _
  | refine LeO.ite ?_ ?_
  | refine LeO.bind ?_ (fun _ => ?_)
theorem lambrequinref03_Same.mono : ∀ a0 a1 k, LeO (lambrequinref03_Same.f k a0 a1) (lambrequinref03_Same.f (k + 1) a0 a1) := by
 intro a0 a1 k
 have ih0 := lambrequinref03_Same.mono_l k
 unfold lambrequinref03_Same.f
 repeat' first
   | (with_reducible exact ih0 _ _ _)
   | (with_reducible exact LeO.refl _)
   | (with_reducible exact LeO.none _)
   | (with_reducible refine LeO.ite ?_ ?_)
   | (with_reducible refine LeO.bind ?_ (fun _ => ?_))
   | exact ih0 _ _ _
   | exact LeO.none _
   | refine LeO.ite ?_ ?_
   | refine LeO.bind ?_ (fun _ => ?_)
set_option maxHeartbeats 8000000 in
set_option maxRecDepth 100000 in
theorem lambrequinref03_Same.calls (k : Nat) (A0 : Option Addr) (c0 : Nat) (l0 : List (Val)) (A1 : Option Addr) (c1 : Nat) (l1 : List (Val)) (r : Bool) (w : World) (hr0 : Kd.C k36 w A0 l0.length l0) (hc0 : l0.length ≤ c0) (hr1 : Kd.C k36 w A1 l1.length l1) (hc1 : l1.length ≤ c1) (h : lambrequinref03_Same.f k l0 l1 = some r) :
  Calls Tryz.prog 12 #[.slice A0 l0.length c0, .slice A1 l1.length c1] w fun e w' => e = .returned (.bool r) ∧ Drawn0 w w' := by
 have hu36 := Tryz.underlying36
 have HR0 := am hr0
 have HC0 := am hc0
 clear hr0 hc0
 have HR1 := am hr1
 have HC1 := am hc1
 clear hr1 hc1
 have H : (if (l0.length : Int) = (l1.length : Int) then (lambrequinref03_Same.l0 k l0 l1 0) else (some false)) = some r := h
 clear h
 by_cases c3 : (l0.length : Int) = (l1.length : Int)
 rotate_left
 ·rw [if_neg c3] at H
  have c3b0 : ((l0.length : Int) == (l1.length : Int)) = false := beq_eq_false_iff_ne.mpr c3
  have c3b1 : ((l0.length : Int) != (l1.length : Int)) = true := bne_iff_ne.mpr c3
  have c3b2 : (l0.length == l1.length) = false := by first | simpa using c3 | (simp at c3 ⊢; omega)
  obtain rfl := Option.some.inj H
  go_enter Tryz.func12, Tryz.ntmps12
  go_wp2
  repeat (go_quiet (fail); try go_wp2)
  go_ret
  exact ⟨by first | rfl | (simp; done) | (simp [*]; done), by repeat (first | exact Drawn0.refl _ | apply Drawn0.step)⟩
 rw [if_pos c3] at H
 have c3b0 : ((l0.length : Int) == (l1.length : Int)) = true := beq_iff_eq.mpr c3
 have c3b1 : ((l0.length : Int) != (l1.length : Int)) = false := bne_eq_false_iff_eq.mpr c3
 have c3b2 : (l0.length == l1.length) = true := by first | simpa using c3 | (simp at c3 ⊢; omega)
 clear c3
 have H' := am H
 clear H
 go_enter Tryz.func12, Tryz.ntmps12
 go_wp2
 repeat (go_quiet (fail); try go_wp2)
 go_loopg [5] k (fun kq v5 w' => ∃ (x5_1 : Int), v5 = .int .i64 x5_1 ∧ Aside0 (lambrequinref03_Same.l0 kq l0 l1 x5_1 = some r) ∧ Aside0 (kq ≤ k) ∧ Drawn0 w w')
 case atStart => exact ⟨(0), (by first | rfl | (simp; done) | (simp [*]; done)), H', ⟨Nat.le_refl _⟩, by repeat (first | exact Drawn0.refl _ | apply Drawn0.step)⟩
 case round =>
  clear H'
  try clear c1
  try clear p2
  try clear c3
  try clear c3b0
  try clear c3b1
  try clear c3b2
  obtain ⟨x5_1, rfl, HA, HK1, ⟨m1, rfl⟩⟩ := hrel
  cases gk with
  | zero => exact absurd HA.out (by simp [lambrequinref03_Same.l0])
  | succ k1 =>
   have H := HA.out
   clear HA
   simp only [lambrequinref03_Same.l0] at H
   by_cases c4 : x5_1 < (l0.length : Int)
   rotate_left
   ·rw [if_neg c4] at H
    have c4b0 : decide (x5_1 < (l0.length : Int)) = false := decide_eq_false c4
    clear c4
    obtain rfl := Option.some.inj H
    go_wp2
    repeat (go_quiet (fail); try go_wp2)
    go_ret
    exact ⟨by first | rfl | (simp; done) | (simp [*]; done), by repeat (first | exact Drawn0.refl _ | apply Drawn0.step)⟩
   rw [if_pos c4] at H
   have c4b0 : decide (x5_1 < (l0.length : Int)) = true := decide_eq_true c4
   clear c4
   by_cases c5 : 0 ≤ x5_1
   rotate_left
   ·rw [if_neg c5] at H
    exact absurd H (by simp)
   rw [if_pos c5] at H
   have c5b0 : decide (0 ≤ x5_1) = true := decide_eq_true c5
   clear c5
   by_cases c6 : x5_1 < (l1.length : Int)
   rotate_left
   ·rw [if_neg c6] at H
    exact absurd H (by simp)
   rw [if_pos c6] at H
   have c6b0 : decide (x5_1 < (l1.length : Int)) = true := decide_eq_true c6
   clear c6
   by_cases c7 : (!(((rd_T36 l0 x5_1).isSym) == ((rd_T36 l1 x5_1).isSym)) || (!((((rd_T36 l0 x5_1).sym).toList) == (((rd_T36 l1 x5_1).sym).toList)) || (!(((rd_T36 l0 x5_1).n) == ((rd_T36 l1 x5_1).n))))) = true
   ·rw [if_pos c7] at H
    have c7b0 : (!(((rd_T36 l0 x5_1).isSym) == ((rd_T36 l1 x5_1).isSym)) || (!((((rd_T36 l0 x5_1).sym).toList) == (((rd_T36 l1 x5_1).sym).toList)) || (!(((rd_T36 l0 x5_1).n) == ((rd_T36 l1 x5_1).n))))) = true := c7
    clear c7
    obtain rfl := Option.some.inj H
    have p101 : 0 ≤ (x5_1 : Int) := of_decide_eq_true (by first | (with_reducible assumption) | assumption)
    have q101 : x5_1 < (l0.length : Int) := of_decide_eq_true (by first | (with_reducible assumption) | assumption)
    obtain ⟨ad101, e101, hx101_0, hx101_1, hx101_2⟩ := at_T36 HR0.out x5_1 p101 q101
    cases e101
    replace p101 := eq_true p101
    replace q101 := eq_true q101
    have p102 : 0 ≤ (x5_1 : Int) := of_decide_eq_true (by first | (with_reducible assumption) | assumption)
    have q102 : x5_1 < (l1.length : Int) := of_decide_eq_true (by first | (with_reducible assumption) | assumption)
    obtain ⟨ad102, e102, hx102_0, hx102_1, hx102_2⟩ := at_T36 HR1.out x5_1 p102 q102
    cases e102
    replace p102 := eq_true p102
    replace q102 := eq_true q102
    go_wp2
    repeat (go_quiet (fail); try go_wp2)
    go_ret
    exact ⟨by first | rfl | (simp; done) | (simp [*]; done), by repeat (first | exact Drawn0.refl _ | apply Drawn0.step)⟩
   rw [if_neg c7] at H
   have c7b0 : (!(((rd_T36 l0 x5_1).isSym) == ((rd_T36 l1 x5_1).isSym)) || (!((((rd_T36 l0 x5_1).sym).toList) == (((rd_T36 l1 x5_1).sym).toList)) || (!(((rd_T36 l0 x5_1).n) == ((rd_T36 l1 x5_1).n))))) = false := by simpa using c7
   clear c7
   have H' := am H
   clear H
   have p101 : 0 ≤ (x5_1 : Int) := of_decide_eq_true (by first | (with_reducible assumption) | assumption)
   have q101 : x5_1 < (l0.length : Int) := of_decide_eq_true (by first | (with_reducible assumption) | assumption)
   obtain ⟨ad101, e101, hx101_0, hx101_1, hx101_2⟩ := at_T36 HR0.out x5_1 p101 q101
   cases e101
   replace p101 := eq_true p101
   replace q101 := eq_true q101
   have p102 : 0 ≤ (x5_1 : Int) := of_decide_eq_true (by first | (with_reducible assumption) | assumption)
   have q102 : x5_1 < (l1.length : Int) := of_decide_eq_true (by first | (with_reducible assumption) | assumption)
   obtain ⟨ad102, e102, hx102_0, hx102_1, hx102_2⟩ := at_T36 HR1.out x5_1 p102 q102
   cases e102
   replace p102 := eq_true p102
   replace q102 := eq_true q102
   go_wp2
   repeat (go_quiet (fail); try go_wp2)
   go_roundg k1
   case measure => have := HK1.out; omega
   case rel => exact ⟨(wrap64 (x5_1 + 1)), (by first | rfl | (simp; done) | (simp [*]; done)), H', ⟨by have := HK1.out; omega⟩, by repeat (first | exact Drawn0.refl _ | apply Drawn0.step)⟩
end Go.Proofs.YtoekfmdcplphmaaGreat.H
namespace Go.Proofs.YtoekfmdcplphmaaGreat.H
open Go.RowKit Go.Proofs.YtoekfmdcplphmaaGreatW.PrintWords Go.Proofs.YtoekfmdcplphmaaGreatW.PrintLast Go.Proofs.YtoekfmdcplphmaaGreatW.PrintMore
attribute [local go_sem] max2_int min2_int max_two min_two max_three min_three max_four min_four
def lambrequinref14_Facts.l0 : Nat → List (Fact) → List (Fact) → Int → Option (Bool)
 | 0, _, _, _ => none
 | k + 1, x0, x1, x5 => if x5 < (x0.length : Int) then (if 0 ≤ x5 then (if x5 < (x1.length : Int) then (if ((rd_T26 x0 x5).pred).toList = ((rd_T26 x1 x5).pred).toList then ((lambrequinref03_Same.f k ((rd_T26 x0 x5).args) ((rd_T26 x1 x5).args)).bind fun t105 => (if t105 = true then (lambrequinref14_Facts.l0 k x0 x1 (wrap64 (x5 + 1))) else (some false))) else (some false)) else (none)) else (none)) else (some true)
def lambrequinref14_Facts.f (k : Nat) (l0 : List (Fact)) (l1 : List (Fact)) : Option (Bool) := if (l0.length : Int) = (l1.length : Int) then (lambrequinref14_Facts.l0 k l0 l1 0) else (some false)
theorem lambrequinref14_Facts.mono_l : ∀ k, (∀ y0 y1 y2, LeO (lambrequinref14_Facts.l0 k y0 y1 y2) (lambrequinref14_Facts.l0 (k + 1) y0 y1 y2))
 | 0 => fun _ _ _ r h => by simp [lambrequinref14_Facts.l0] at h
 | k + 1 => by
  have ih0 := lambrequinref14_Facts.mono_l k
  intro y0 y1 y2
  unfold lambrequinref14_Facts.l0
  repeat' first
  | (with_reducible exact ih0 _ _ _)
  | (with_reducible exact lambrequinref03_Same.mono _ _ _)
  | (with_reducible exact LeO.refl _)
  | (with_reducible exact LeO.none _)
  | (with_reducible refine LeO.ite ?_ ?_)
  | (with_reducible refine LeO.bind ?_ (fun _ => ?_))
  | exact ih0 _ _ _
  | exact lambrequinref03_Same.mono _ _ _
  | exact LeO.none _
  | refine LeO.ite ?_ ?_
  | refine LeO.bind ?_ (fun _ => ?_)
theorem lambrequinref14_Facts.mono : ∀ a0 a1 k, LeO (lambrequinref14_Facts.f k a0 a1) (lambrequinref14_Facts.f (k + 1) a0 a1) := by
 intro a0 a1 k
 have ih0 := lambrequinref14_Facts.mono_l k
 unfold lambrequinref14_Facts.f
 repeat' first
   | (with_reducible exact ih0 _ _ _)
   | (with_reducible exact lambrequinref03_Same.mono _ _ _)
   | (with_reducible exact LeO.refl _)
   | (with_reducible exact LeO.none _)
   | (with_reducible refine LeO.ite ?_ ?_)
   | (with_reducible refine LeO.bind ?_ (fun _ => ?_))
   | exact ih0 _ _ _
   | exact lambrequinref03_Same.mono _ _ _
   | exact LeO.none _
   | refine LeO.ite ?_ ?_
   | refine LeO.bind ?_ (fun _ => ?_)
set_option maxHeartbeats 8000000 in
set_option maxRecDepth 100000 in
theorem lambrequinref14_Facts.calls (k : Nat) (A0 : Option Addr) (c0 : Nat) (l0 : List (Fact)) (A1 : Option Addr) (c1 : Nat) (l1 : List (Fact)) (r : Bool) (w : World) (hr0 : Kd.C k26 w A0 l0.length l0) (hc0 : l0.length ≤ c0) (hr1 : Kd.C k26 w A1 l1.length l1) (hc1 : l1.length ≤ c1) (h : lambrequinref14_Facts.f k l0 l1 = some r) :
  Calls Tryz.prog 5 #[.slice A0 l0.length c0, .slice A1 l1.length c1] w fun e w' => e = .returned (.bool r) ∧ Drawn0 w w' := by
 have HR0 := am hr0
 have HC0 := am hc0
 clear hr0 hc0
 have HR1 := am hr1
 have HC1 := am hc1
 clear hr1 hc1
 have H : (if (l0.length : Int) = (l1.length : Int) then (lambrequinref14_Facts.l0 k l0 l1 0) else (some false)) = some r := h
 clear h
 by_cases c3 : (l0.length : Int) = (l1.length : Int)
 rotate_left
 ·rw [if_neg c3] at H
  have c3b0 : ((l0.length : Int) == (l1.length : Int)) = false := beq_eq_false_iff_ne.mpr c3
  have c3b1 : ((l0.length : Int) != (l1.length : Int)) = true := bne_iff_ne.mpr c3
  have c3b2 : (l0.length == l1.length) = false := by first | simpa using c3 | (simp at c3 ⊢; omega)
  obtain rfl := Option.some.inj H
  go_enter Tryz.func5, Tryz.ntmps5
  go_wp2
  repeat (go_quiet (fail); try go_wp2)
  go_ret
  exact ⟨by first | rfl | (simp; done) | (simp [*]; done), by repeat (first | exact Drawn0.refl _ | apply Drawn0.step)⟩
 rw [if_pos c3] at H
 have c3b0 : ((l0.length : Int) == (l1.length : Int)) = true := beq_iff_eq.mpr c3
 have c3b1 : ((l0.length : Int) != (l1.length : Int)) = false := bne_eq_false_iff_eq.mpr c3
 have c3b2 : (l0.length == l1.length) = true := by first | simpa using c3 | (simp at c3 ⊢; omega)
 clear c3
 have H' := am H
 clear H
 go_enter Tryz.func5, Tryz.ntmps5
 go_wp2
 repeat (go_quiet (fail); try go_wp2)
 go_loopg [5] k (fun kq v5 w' => ∃ (x5_1 : Int), v5 = .int .i64 x5_1 ∧ Aside0 (lambrequinref14_Facts.l0 kq l0 l1 x5_1 = some r) ∧ Aside0 (kq ≤ k) ∧ Drawn0 w w')
 case atStart => exact ⟨(0), (by first | rfl | (simp; done) | (simp [*]; done)), H', ⟨Nat.le_refl _⟩, by repeat (first | exact Drawn0.refl _ | apply Drawn0.step)⟩
 case round =>
  clear H'
  try clear c1
  try clear p2
  try clear c3
  try clear c3b0
  try clear c3b1
  try clear c3b2
  obtain ⟨x5_1, rfl, HA, HK1, ⟨m1, rfl⟩⟩ := hrel
  cases gk with
  | zero => exact absurd HA.out (by simp [lambrequinref14_Facts.l0])
  | succ k1 =>
   have H := HA.out
   clear HA
   simp only [lambrequinref14_Facts.l0] at H
   by_cases c4 : x5_1 < (l0.length : Int)
   rotate_left
   ·rw [if_neg c4] at H
    have c4b0 : decide (x5_1 < (l0.length : Int)) = false := decide_eq_false c4
    clear c4
    obtain rfl := Option.some.inj H
    go_wp2
    repeat (go_quiet (fail); try go_wp2)
    go_ret
    exact ⟨by first | rfl | (simp; done) | (simp [*]; done), by repeat (first | exact Drawn0.refl _ | apply Drawn0.step)⟩
   rw [if_pos c4] at H
   have c4b0 : decide (x5_1 < (l0.length : Int)) = true := decide_eq_true c4
   clear c4
   by_cases c5 : 0 ≤ x5_1
   rotate_left
   ·rw [if_neg c5] at H
    exact absurd H (by simp)
   rw [if_pos c5] at H
   have c5b0 : decide (0 ≤ x5_1) = true := decide_eq_true c5
   clear c5
   by_cases c6 : x5_1 < (l1.length : Int)
   rotate_left
   ·rw [if_neg c6] at H
    exact absurd H (by simp)
   rw [if_pos c6] at H
   have c6b0 : decide (x5_1 < (l1.length : Int)) = true := decide_eq_true c6
   clear c6
   by_cases c7 : ((rd_T26 l0 x5_1).pred).toList = ((rd_T26 l1 x5_1).pred).toList
   rotate_left
   ·rw [if_neg c7] at H
    have c7b0 : (((rd_T26 l0 x5_1).pred).toList == ((rd_T26 l1 x5_1).pred).toList) = false := beq_eq_false_iff_ne.mpr c7
    have c7b1 : (((rd_T26 l0 x5_1).pred).toList != ((rd_T26 l1 x5_1).pred).toList) = true := bne_iff_ne.mpr c7
    obtain rfl := Option.some.inj H
    have p101 : 0 ≤ (x5_1 : Int) := of_decide_eq_true (by first | (with_reducible assumption) | assumption)
    have q101 : x5_1 < (l0.length : Int) := of_decide_eq_true (by first | (with_reducible assumption) | assumption)
    obtain ⟨ad101, A101_1, c101_1, e101, hx101_0, hx101_1, hl101_1, hi101_1⟩ := at_T26 HR0.out x5_1 p101 q101
    cases e101
    have HR101_1 := am hi101_1
    have HC101_1 := am hl101_1
    clear hi101_1 hl101_1
    replace p101 := eq_true p101
    replace q101 := eq_true q101
    have p102 : 0 ≤ (x5_1 : Int) := of_decide_eq_true (by first | (with_reducible assumption) | assumption)
    have q102 : x5_1 < (l1.length : Int) := of_decide_eq_true (by first | (with_reducible assumption) | assumption)
    obtain ⟨ad102, A102_1, c102_1, e102, hx102_0, hx102_1, hl102_1, hi102_1⟩ := at_T26 HR1.out x5_1 p102 q102
    cases e102
    have HR102_1 := am hi102_1
    have HC102_1 := am hl102_1
    clear hi102_1 hl102_1
    replace p102 := eq_true p102
    replace q102 := eq_true q102
    go_wp2
    repeat (go_quiet (fail); try go_wp2)
    go_ret
    exact ⟨by first | rfl | (simp; done) | (simp [*]; done), by repeat (first | exact Drawn0.refl _ | apply Drawn0.step)⟩
   rw [if_pos c7] at H
   have c7b0 : (((rd_T26 l0 x5_1).pred).toList == ((rd_T26 l1 x5_1).pred).toList) = true := beq_iff_eq.mpr c7
   have c7b1 : (((rd_T26 l0 x5_1).pred).toList != ((rd_T26 l1 x5_1).pred).toList) = false := bne_eq_false_iff_eq.mpr c7
   clear c7
   replace H := Option.bind_eq_some_iff.mp H
   obtain ⟨t105, A80, H⟩ := H
   replace H : (if t105 = true then (lambrequinref14_Facts.l0 k1 l0 l1 (wrap64 (x5_1 + 1))) else (some false)) = some r := H
   have A8 := am A80
   clear A80
   by_cases c9 : t105 = true
   ·subst c9
    have H1 : (lambrequinref14_Facts.l0 k1 l0 l1 (wrap64 (x5_1 + 1))) = some r := by rw [if_pos rfl] at H; exact H
    clear H
    have H := H1
    clear H1
    have H' := am H
    clear H
    have p101 : 0 ≤ (x5_1 : Int) := of_decide_eq_true (by first | (with_reducible assumption) | assumption)
    have q101 : x5_1 < (l0.length : Int) := of_decide_eq_true (by first | (with_reducible assumption) | assumption)
    obtain ⟨ad101, A101_1, c101_1, e101, hx101_0, hx101_1, hl101_1, hi101_1⟩ := at_T26 HR0.out x5_1 p101 q101
    cases e101
    have HR101_1 := am hi101_1
    have HC101_1 := am hl101_1
    clear hi101_1 hl101_1
    replace p101 := eq_true p101
    replace q101 := eq_true q101
    have p102 : 0 ≤ (x5_1 : Int) := of_decide_eq_true (by first | (with_reducible assumption) | assumption)
    have q102 : x5_1 < (l1.length : Int) := of_decide_eq_true (by first | (with_reducible assumption) | assumption)
    obtain ⟨ad102, A102_1, c102_1, e102, hx102_0, hx102_1, hl102_1, hi102_1⟩ := at_T26 HR1.out x5_1 p102 q102
    cases e102
    have HR102_1 := am hi102_1
    have HC102_1 := am hl102_1
    clear hi102_1 hl102_1
    replace p102 := eq_true p102
    replace q102 := eq_true q102
    have p103 : 0 ≤ (x5_1 : Int) := of_decide_eq_true (by first | (with_reducible assumption) | assumption)
    have q103 : x5_1 < (l0.length : Int) := of_decide_eq_true (by first | (with_reducible assumption) | assumption)
    obtain ⟨ad103, A103_1, c103_1, e103, hx103_0, hx103_1, hl103_1, hi103_1⟩ := at_T26 HR0.out x5_1 p103 q103
    obtain rfl : ad101 = ad103 := (by injection e103)
    have HR103_1 := am hi103_1
    have HC103_1 := am hl103_1
    clear hi103_1 hl103_1
    replace p103 := eq_true p103
    replace q103 := eq_true q103
    have ea_ := Option.some.inj (hx101_1.symm.trans hx103_1)
    injection ea_ with ea_ en_ ec_
    subst ea_
    subst ec_
    clear en_
    have p104 : 0 ≤ (x5_1 : Int) := of_decide_eq_true (by first | (with_reducible assumption) | assumption)
    have q104 : x5_1 < (l1.length : Int) := of_decide_eq_true (by first | (with_reducible assumption) | assumption)
    obtain ⟨ad104, A104_1, c104_1, e104, hx104_0, hx104_1, hl104_1, hi104_1⟩ := at_T26 HR1.out x5_1 p104 q104
    obtain rfl : ad102 = ad104 := (by injection e104)
    have HR104_1 := am hi104_1
    have HC104_1 := am hl104_1
    clear hi104_1 hl104_1
    replace p104 := eq_true p104
    replace q104 := eq_true q104
    have ea_ := Option.some.inj (hx102_1.symm.trans hx104_1)
    injection ea_ with ea_ en_ ec_
    subst ea_
    subst ec_
    clear en_
    go_wp2_with (first | (go_at_call 12; (with_reducible refine (lambrequinref03_Same.calls k1 _ _ ((rd_T26 l0 x5_1).args) _ _ ((rd_T26 l1 x5_1).args) true _ ?side1 ?side2 ?side3 ?side4 A8.out).mono ?_); (case side1 => repeat (first | exact HR103_1.out | (with_reducible refine Kd.C_alloc ?_ _) | (with_reducible refine Kd.C_drewN ?_ _) | (with_reducible refine Kd.C_drew ?_))); (case side2 => exact HC103_1.out); (case side3 => repeat (first | exact HR104_1.out | (with_reducible refine Kd.C_alloc ?_ _) | (with_reducible refine Kd.C_drewN ?_ _) | (with_reducible refine Kd.C_drew ?_))); (case side4 => exact HC104_1.out); rintro e w' ⟨rfl, ⟨nd, rfl⟩⟩; (try first | exact ⟨rfl, _, World.drewN_drewN _ _ _⟩ | exact ⟨rfl, _, Eq.trans (World.drewN_drewN _ _ _) (congrArg (World.drewN _) (Nat.add_assoc _ _ _))⟩)))
    repeat (go_quiet (first | (go_at_call 12; (with_reducible refine (lambrequinref03_Same.calls k1 _ _ ((rd_T26 l0 x5_1).args) _ _ ((rd_T26 l1 x5_1).args) true _ ?side1 ?side2 ?side3 ?side4 A8.out).mono ?_); (case side1 => repeat (first | exact HR103_1.out | (with_reducible refine Kd.C_alloc ?_ _) | (with_reducible refine Kd.C_drewN ?_ _) | (with_reducible refine Kd.C_drew ?_))); (case side2 => exact HC103_1.out); (case side3 => repeat (first | exact HR104_1.out | (with_reducible refine Kd.C_alloc ?_ _) | (with_reducible refine Kd.C_drewN ?_ _) | (with_reducible refine Kd.C_drew ?_))); (case side4 => exact HC104_1.out); rintro e w' ⟨rfl, ⟨nd, rfl⟩⟩; (try first | exact ⟨rfl, _, World.drewN_drewN _ _ _⟩ | exact ⟨rfl, _, Eq.trans (World.drewN_drewN _ _ _) (congrArg (World.drewN _) (Nat.add_assoc _ _ _))⟩))); try go_wp2_with (first | (go_at_call 12; (with_reducible refine (lambrequinref03_Same.calls k1 _ _ ((rd_T26 l0 x5_1).args) _ _ ((rd_T26 l1 x5_1).args) true _ ?side1 ?side2 ?side3 ?side4 A8.out).mono ?_); (case side1 => repeat (first | exact HR103_1.out | (with_reducible refine Kd.C_alloc ?_ _) | (with_reducible refine Kd.C_drewN ?_ _) | (with_reducible refine Kd.C_drew ?_))); (case side2 => exact HC103_1.out); (case side3 => repeat (first | exact HR104_1.out | (with_reducible refine Kd.C_alloc ?_ _) | (with_reducible refine Kd.C_drewN ?_ _) | (with_reducible refine Kd.C_drew ?_))); (case side4 => exact HC104_1.out); rintro e w' ⟨rfl, ⟨nd, rfl⟩⟩; (try first | exact ⟨rfl, _, World.drewN_drewN _ _ _⟩ | exact ⟨rfl, _, Eq.trans (World.drewN_drewN _ _ _) (congrArg (World.drewN _) (Nat.add_assoc _ _ _))⟩))))
    go_roundg k1
    case measure => have := HK1.out; omega
    case rel => exact ⟨(wrap64 (x5_1 + 1)), (by first | rfl | (simp; done) | (simp [*]; done)), H', ⟨by have := HK1.out; omega⟩, by repeat (first | exact Drawn0.refl _ | apply Drawn0.step)⟩
   replace c9 := Bool.eq_false_iff.mpr c9
   subst c9
   have H1 : (some false) = some r := by rw [if_neg (show ¬ (false = true) by decide)] at H; exact H
   clear H
   have H := H1
   clear H1
   obtain rfl := Option.some.inj H
   have p101 : 0 ≤ (x5_1 : Int) := of_decide_eq_true (by first | (with_reducible assumption) | assumption)
   have q101 : x5_1 < (l0.length : Int) := of_decide_eq_true (by first | (with_reducible assumption) | assumption)
   obtain ⟨ad101, A101_1, c101_1, e101, hx101_0, hx101_1, hl101_1, hi101_1⟩ := at_T26 HR0.out x5_1 p101 q101
   cases e101
   have HR101_1 := am hi101_1
   have HC101_1 := am hl101_1
   clear hi101_1 hl101_1
   replace p101 := eq_true p101
   replace q101 := eq_true q101
   have p102 : 0 ≤ (x5_1 : Int) := of_decide_eq_true (by first | (with_reducible assumption) | assumption)
   have q102 : x5_1 < (l1.length : Int) := of_decide_eq_true (by first | (with_reducible assumption) | assumption)
   obtain ⟨ad102, A102_1, c102_1, e102, hx102_0, hx102_1, hl102_1, hi102_1⟩ := at_T26 HR1.out x5_1 p102 q102
   cases e102
   have HR102_1 := am hi102_1
   have HC102_1 := am hl102_1
   clear hi102_1 hl102_1
   replace p102 := eq_true p102
   replace q102 := eq_true q102
   have p103 : 0 ≤ (x5_1 : Int) := of_decide_eq_true (by first | (with_reducible assumption) | assumption)
   have q103 : x5_1 < (l0.length : Int) := of_decide_eq_true (by first | (with_reducible assumption) | assumption)
   obtain ⟨ad103, A103_1, c103_1, e103, hx103_0, hx103_1, hl103_1, hi103_1⟩ := at_T26 HR0.out x5_1 p103 q103
   obtain rfl : ad101 = ad103 := (by injection e103)
   have HR103_1 := am hi103_1
   have HC103_1 := am hl103_1
   clear hi103_1 hl103_1
   replace p103 := eq_true p103
   replace q103 := eq_true q103
   have ea_ := Option.some.inj (hx101_1.symm.trans hx103_1)
   injection ea_ with ea_ en_ ec_
   subst ea_
   subst ec_
   clear en_
   have p104 : 0 ≤ (x5_1 : Int) := of_decide_eq_true (by first | (with_reducible assumption) | assumption)
   have q104 : x5_1 < (l1.length : Int) := of_decide_eq_true (by first | (with_reducible assumption) | assumption)
   obtain ⟨ad104, A104_1, c104_1, e104, hx104_0, hx104_1, hl104_1, hi104_1⟩ := at_T26 HR1.out x5_1 p104 q104
   obtain rfl : ad102 = ad104 := (by injection e104)
   have HR104_1 := am hi104_1
   have HC104_1 := am hl104_1
   clear hi104_1 hl104_1
   replace p104 := eq_true p104
   replace q104 := eq_true q104
   have ea_ := Option.some.inj (hx102_1.symm.trans hx104_1)
   injection ea_ with ea_ en_ ec_
   subst ea_
   subst ec_
   clear en_
   go_wp2_with (first | (go_at_call 12; (with_reducible refine (lambrequinref03_Same.calls k1 _ _ ((rd_T26 l0 x5_1).args) _ _ ((rd_T26 l1 x5_1).args) false _ ?side1 ?side2 ?side3 ?side4 A8.out).mono ?_); (case side1 => repeat (first | exact HR103_1.out | (with_reducible refine Kd.C_alloc ?_ _) | (with_reducible refine Kd.C_drewN ?_ _) | (with_reducible refine Kd.C_drew ?_))); (case side2 => exact HC103_1.out); (case side3 => repeat (first | exact HR104_1.out | (with_reducible refine Kd.C_alloc ?_ _) | (with_reducible refine Kd.C_drewN ?_ _) | (with_reducible refine Kd.C_drew ?_))); (case side4 => exact HC104_1.out); rintro e w' ⟨rfl, ⟨nd, rfl⟩⟩; (try first | exact ⟨rfl, _, World.drewN_drewN _ _ _⟩ | exact ⟨rfl, _, Eq.trans (World.drewN_drewN _ _ _) (congrArg (World.drewN _) (Nat.add_assoc _ _ _))⟩)))
   repeat (go_quiet (first | (go_at_call 12; (with_reducible refine (lambrequinref03_Same.calls k1 _ _ ((rd_T26 l0 x5_1).args) _ _ ((rd_T26 l1 x5_1).args) false _ ?side1 ?side2 ?side3 ?side4 A8.out).mono ?_); (case side1 => repeat (first | exact HR103_1.out | (with_reducible refine Kd.C_alloc ?_ _) | (with_reducible refine Kd.C_drewN ?_ _) | (with_reducible refine Kd.C_drew ?_))); (case side2 => exact HC103_1.out); (case side3 => repeat (first | exact HR104_1.out | (with_reducible refine Kd.C_alloc ?_ _) | (with_reducible refine Kd.C_drewN ?_ _) | (with_reducible refine Kd.C_drew ?_))); (case side4 => exact HC104_1.out); rintro e w' ⟨rfl, ⟨nd, rfl⟩⟩; (try first | exact ⟨rfl, _, World.drewN_drewN _ _ _⟩ | exact ⟨rfl, _, Eq.trans (World.drewN_drewN _ _ _) (congrArg (World.drewN _) (Nat.add_assoc _ _ _))⟩))); try go_wp2_with (first | (go_at_call 12; (with_reducible refine (lambrequinref03_Same.calls k1 _ _ ((rd_T26 l0 x5_1).args) _ _ ((rd_T26 l1 x5_1).args) false _ ?side1 ?side2 ?side3 ?side4 A8.out).mono ?_); (case side1 => repeat (first | exact HR103_1.out | (with_reducible refine Kd.C_alloc ?_ _) | (with_reducible refine Kd.C_drewN ?_ _) | (with_reducible refine Kd.C_drew ?_))); (case side2 => exact HC103_1.out); (case side3 => repeat (first | exact HR104_1.out | (with_reducible refine Kd.C_alloc ?_ _) | (with_reducible refine Kd.C_drewN ?_ _) | (with_reducible refine Kd.C_drew ?_))); (case side4 => exact HC104_1.out); rintro e w' ⟨rfl, ⟨nd, rfl⟩⟩; (try first | exact ⟨rfl, _, World.drewN_drewN _ _ _⟩ | exact ⟨rfl, _, Eq.trans (World.drewN_drewN _ _ _) (congrArg (World.drewN _) (Nat.add_assoc _ _ _))⟩))))
   go_ret
   exact ⟨by first | rfl | (simp; done) | (simp [*]; done), by repeat (first | exact Drawn0.refl _ | apply Drawn0.step)⟩
end Go.Proofs.YtoekfmdcplphmaaGreat.H
/- the document's sorting of facts is the program's; lists of facts that are one list are told so -/
namespace Go.Proofs.YtoekfmdcplphmaaGreat.H
open Go.RowKit Go.Proofs.YtoekfmdcplphmaaGreatW.PrintWords
theorem rBare_eq (v : Val) : lambrequinref03_Bare.f v.isSym v.sym v.n = some ((bareVal v).isSym, (bareVal v).sym, (bareVal v).n) := by
  unfold lambrequinref03_Bare.f bareVal
  by_cases h : v.isSym = true
  · rw [if_pos h, if_pos h]
  · rw [if_neg h, if_neg h]
theorem rOf_l0 (l : List Val) (hl : l.length ≤ 1000) : ∀ (r : List Val) (i : Nat) (acc : List Val), l.drop i = r → acc.length + r.length ≤ 1000 → Ev (fun k => lambrequinref03_Of.l0 k l acc i) (acc ++ r.map bareVal)
  | [], i, acc, h, ha => by
    refine Ev.step (fun k => by rw [lambrequinref03_Of.l0]) ?_
    refine Ev.neg (drop_end h) ?_
    exact Ev.some (by simp)
  | y :: r, i, acc, h, ha => by
    obtain ⟨g1, g2, g3, g4, g5⟩ := drop_more h (by omega)
    refine Ev.step (fun k => by rw [lambrequinref03_Of.l0]) ?_
    refine Ev.pos g1 ?_
    refine Ev.pos g2 ?_
    rw [show rd_T36 l i = y from g3 _, g5]
    refine Ev.pure (rBare_eq y) ?_
    refine Ev.pos (by simp at ha ⊢; omega) ?_
    exact Ev.iff (rOf_l0 l hl r (i + 1) (acc ++ [bareVal y]) g4 (by simp at ha ⊢; omega)) (by simp)
theorem rOf_ev {l : List Val} (hl : l.length ≤ 1000) (hb : l.all bareV = true) : Ev (fun k => lambrequinref03_Of.f k l) l := by
  unfold lambrequinref03_Of.f
  refine Ev.iff (rOf_l0 l hl l 0 [] rfl (by simpa using hl)) ?_
  rw [List.all_eq_true] at hb
  rw [List.nil_append]
  conv => rhs; rw [← List.map_id l]
  exact List.map_congr_left fun x hx => bareVal_id (hb x hx)
def SF (l : List Fact) : Prop := l.Pairwise fun x y => cmpF x y < 0
theorem SF_nodup {l : List Fact} (h : SF l) : l.Nodup := h.imp fun {a b} h => by rintro rfl; have := ordF.self a; omega
theorem SF_ext {a b : List Fact} (ha : SF a) (hb : SF b) (h : ∀ x, x ∈ a ↔ x ∈ b) : a = b := by
  refine List.Perm.eq_of_pairwise (le := fun x y => cmpF x y < 0) ?_ ha hb ((List.perm_ext_iff_of_nodup (SF_nodup ha) (SF_nodup hb)).2 h)
  intro x y _ _ h1 h2
  have := ordF.anti x y
  omega
theorem SF_insert {acc : List Fact} {y : Fact} {n : Nat} (hs : SF acc) (h1 : ∀ z ∈ acc.drop n, cmpF y z < 0) (h2 : ∀ z ∈ acc.take n, cmpF z y < 0) : SF (acc.take n ++ [y] ++ acc.drop n) := by
  unfold SF at hs ⊢
  rw [← List.take_append_drop n acc, List.pairwise_append] at hs
  rw [List.append_assoc, List.singleton_append, List.pairwise_append]
  refine ⟨hs.1, List.pairwise_cons.2 ⟨h1, hs.2.1⟩, fun a ha b hb => ?_⟩
  rcases List.mem_cons.1 hb with rfl | hb
  · exact h2 a ha
  · exact hs.2.2 a ha b hb
theorem rSort_l1 (l acc : List Fact) (i : Nat) (y : Fact) (hl : i < 100000) (hx : acc.length ≤ 100000) (hs : SF acc) (hoy : okF y) (hok : ∀ f ∈ acc, okF f) (hby : bareF y = true) (hba : ∀ f ∈ acc, bareF f = true) (R : List Fact)
    (same : y ∈ acc → Ev (fun k => lambrequinref14_Sort.l0 k l acc ((i + 1 : Nat) : Int)) R)
    (go : ∀ x', SF x' → (∀ x, x ∈ x' ↔ x = y ∨ x ∈ acc) → x'.length = acc.length + 1 → Ev (fun k => lambrequinref14_Sort.l0 k l x' ((i + 1 : Nat) : Int)) R) :
    ∀ (r : List Fact) (n : Nat), acc.drop n = r → n ≤ acc.length → (∀ z ∈ acc.take n, cmpF z y < 0) → Ev (fun k => lambrequinref14_Sort.l1 k l acc i n y.pred y.args) R := by
  have put : ∀ n : Nat, n ≤ acc.length → (∀ z ∈ acc.drop n, cmpF y z < 0) → (∀ z ∈ acc.take n, cmpF z y < 0) → Ev (fun k => lambrequinref14_Sort.l0 k l ([] ++ acc.take n ++ [y] ++ acc.drop n) ((i + 1 : Nat) : Int)) R := by
    intro n hn h1 h2
    rw [List.nil_append]
    refine go _ (SF_insert hs h1 h2) (fun x => ?_) (by simp; omega)
    rw [List.mem_append, List.mem_append, List.mem_singleton]
    constructor
    · rintro ((h | h) | h)
      · exact .inr (List.mem_of_mem_take h)
      · exact .inl h
      · exact .inr (List.mem_of_mem_drop h)
    · rintro (h | h)
      · exact .inl (.inr h)
      · rw [← List.take_append_drop n acc, List.mem_append] at h
        rcases h with h | h
        · exact .inl (.inl h)
        · exact .inr h
  have fall : ∀ n : Nat, n ≤ acc.length → (∀ z ∈ acc.drop n, cmpF y z < 0) → (∀ z ∈ acc.take n, cmpF z y < 0) → Ev (fun k => lambrequinref14_Sort.j3 k l acc i n false y.pred y.args) R := by
    intro n hn h1 h2
    have hp := put n hn h1 h2
    refine Ev.step (fun k => by rw [lambrequinref14_Sort.j3]) ?_
    refine Ev.neg (by decide) (Ev.pure (a := []) rfl (Ev.pos (by omega) (Ev.pos (by omega) (Ev.pure (a := acc.take n) rfl (Ev.pos (by simp; omega) (Ev.pure (a := [] ++ acc.take n) rfl ?_))))))
    refine Ev.pos (by simp; omega) (Ev.pure (a := [] ++ acc.take n ++ [y]) rfl (Ev.pure (a := acc.drop n) rfl (Ev.pos (by simp; omega) ?_)))
    rw [wrap_up (by omega)]
    exact hp
  intro r
  induction r with
  | nil =>
    intro n h hn h2
    have hf := fall n hn (by rw [h]; simp) h2
    refine Ev.step (fun k => by rw [lambrequinref14_Sort.l1]) ?_
    refine Ev.neg (drop_end h) ?_
    refine Ev.step (fun k => by rw [lambrequinref14_Sort.j2]) ?_
    exact Ev.neg (by decide) (Ev.neg (drop_end h) hf)
  | cons f r ih =>
    intro n h hn h2
    obtain ⟨g1, g2, g3, g4, g5⟩ := drop_more h (by omega)
    have hf : f ∈ acc := List.mem_of_mem_drop (i := n) (by rw [h]; simp)
    have hn' : acc[n]? = some f := by
      have := congrArg (fun z => z[0]?) h
      simpa using this
    have hrd : rd_T26 acc n = f := g3 _
    refine Ev.step (fun k => by rw [lambrequinref14_Sort.l1]) ?_
    refine Ev.pos g1 (Ev.pos g2 ?_)
    rw [hrd]
    refine Ev.bind (ref14_ev f y (hok f hf) hoy) ?_
    refine Ev.step (fun k => by rw [lambrequinref14_Sort.j2]) ?_
    by_cases c : cmpF f y < 0
    · refine Ev.pos (decide_eq_true c) ?_
      rw [g5]
      refine ih (n + 1) g4 (by omega) fun z hz => ?_
      rw [List.take_add_one, hn'] at hz
      rcases List.mem_append.1 hz with hz | hz
      · exact h2 z hz
      · simp at hz
        rw [hz]; exact c
    · refine Ev.neg (by simpa using c) (Ev.pos g1 (Ev.pos g2 ?_))
      rw [hrd]
      refine Ev.bind (ref14_ev f y (hok f hf) hoy) ?_
      by_cases c0 : cmpF f y = 0
      · refine Ev.step (fun k => by rw [lambrequinref14_Sort.j3]) ?_
        refine Ev.pos (by simp [c0]) ?_
        rw [wrap_up (by omega)]
        refine same ?_
        exact (cmpF_zero (hba f hf) hby).1 c0 ▸ hf
      · rw [show (cmpF f y == 0) = false by simpa using c0]
        have hyf : cmpF y f < 0 := by have := ordF.anti f y; omega
        refine fall n hn (fun z hz => ?_) h2
        have hsd : SF (acc.drop n) := List.Pairwise.sublist (List.drop_sublist n acc) hs
        rw [h] at hz hsd
        rcases List.mem_cons.1 hz with rfl | hz
        · exact hyf
        · have := (List.pairwise_cons.1 hsd).1 z hz
          exact ordF.lt' hyf (by omega)
theorem rSort_l0 (l : List Fact) (hl : l.length ≤ 50000) (hb : ∀ f ∈ l, bareF f = true) (ho : ∀ f ∈ l, okF f) (ha : ∀ f ∈ l, f.args.length ≤ 1000) : ∀ (r : List Fact) (n : Nat) (acc : List Fact), l.drop n = r → n ≤ l.length → SF acc → (∀ x, x ∈ acc ↔ x ∈ l.take n) → acc.length ≤ n →
    Ev (fun k => lambrequinref14_Sort.l0 k l acc n) (dd (sortF l))
  | [], n, acc, h, hn, hs, hm, hc => by
    have hz : l.length ≤ n := drop_len h
    have hbl : bareL l = true := by unfold bareL; rw [List.all_eq_true]; exact hb
    refine Ev.step (fun k => by rw [lambrequinref14_Sort.l0]) ?_
    refine Ev.neg (drop_end h) (Ev.some (SF_ext hs (dd_strict (bareL_sort hbl) (sortF_pw _)) fun x => ?_))
    rw [hm, List.take_of_length_le hz, mem_dd, sortF_mem]
  | y :: r, n, acc, h, hn, hs, hm, hc => by
    obtain ⟨g1, g2, g3, g4, g5⟩ := drop_more h (by omega)
    have hy : l[n]? = some y := by
      have := congrArg (fun z => z[0]?) h
      simpa using this
    have hyl : y ∈ l := List.mem_of_mem_drop (i := n) (by rw [h]; simp)
    have htake : ∀ x, x ∈ l.take (n + 1) ↔ x = y ∨ x ∈ l.take n := by
      intro x
      rw [List.take_add_one, hy, List.mem_append]
      simp [or_comm]
    have hal : ∀ f ∈ acc, f ∈ l := fun f hf => List.mem_of_mem_take ((hm f).1 hf)
    refine Ev.step (fun k => by rw [lambrequinref14_Sort.l0]) ?_
    refine Ev.pos g1 (Ev.pos g2 ?_)
    rw [show rd_T26 l n = y from g3 _]
    refine Ev.bind (rOf_ev (ha y hyl) (hb y hyl)) ?_
    refine rSort_l1 l acc n y (by omega) (by omega) hs (ho y hyl) (fun f hf => ho f (hal f hf)) (hb y hyl) (fun f hf => hb f (hal f hf)) _ (fun hya => ?_) (fun x' hs' hm' hc' => ?_) acc 0 rfl (by omega) (by simp)
    · refine rSort_l0 l hl hb ho ha r (n + 1) acc g4 (by omega) hs (fun x => ?_) (by omega)
      rw [htake, ← hm]
      exact ⟨.inr, fun h => by rcases h with rfl | h; exact hya; exact h⟩
    · refine rSort_l0 l hl hb ho ha r (n + 1) x' g4 (by omega) hs' (fun x => ?_) (by omega)
      rw [htake, hm', hm]
theorem rSort_ev (l : List Fact) (hl : l.length ≤ 50000) (hb : ∀ f ∈ l, bareF f = true) (ho : ∀ f ∈ l, okF f) (ha : ∀ f ∈ l, f.args.length ≤ 1000) : Ev (fun k => lambrequinref14_Sort.f k l) (dd (sortF l)) := by
  unfold lambrequinref14_Sort.f
  exact rSort_l0 l hl hb ho ha l 0 [] rfl (by omega) List.Pairwise.nil (by simp) (by simp)
theorem rSame_l0 (l : List Val) (hl : l.length ≤ 9223372036854775806) : ∀ (r : List Val) (i : Nat), l.drop i = r → Ev (fun k => lambrequinref03_Same.l0 k l l i) true
  | [], i, h => by
    refine Ev.step (fun k => by rw [lambrequinref03_Same.l0]) ?_
    exact Ev.neg (drop_end h) (Ev.now _)
  | y :: r, i, h => by
    obtain ⟨g1, g2, g3, g4, g5⟩ := drop_more h (by omega)
    refine Ev.step (fun k => by rw [lambrequinref03_Same.l0]) ?_
    refine Ev.pos g1 (Ev.pos g2 (Ev.pos g1 (Ev.neg (by simp) ?_)))
    rw [g5]
    exact rSame_l0 l hl r (i + 1) g4
theorem rSame_ev (l : List Val) (hl : l.length ≤ 9223372036854775806) : Ev (fun k => lambrequinref03_Same.f k l l) true := by
  unfold lambrequinref03_Same.f
  exact Ev.pos rfl (rSame_l0 l hl l 0 rfl)
theorem rFacts_l0 (l : List Fact) (hl : l.length ≤ 9223372036854775806) (ho : ∀ f ∈ l, okF f) : ∀ (r : List Fact) (i : Nat), l.drop i = r → Ev (fun k => lambrequinref14_Facts.l0 k l l i) true
  | [], i, h => by
    refine Ev.step (fun k => by rw [lambrequinref14_Facts.l0]) ?_
    exact Ev.neg (drop_end h) (Ev.now _)
  | y :: r, i, h => by
    obtain ⟨g1, g2, g3, g4, g5⟩ := drop_more h (by omega)
    have hy : y ∈ l := List.mem_of_mem_drop (i := i) (by rw [h]; simp)
    refine Ev.step (fun k => by rw [lambrequinref14_Facts.l0]) ?_
    refine Ev.pos g1 (Ev.pos g2 (Ev.pos g1 (Ev.pos rfl ?_)))
    rw [show rd_T26 l i = y from g3 _, g5]
    exact Ev.bind (rSame_ev _ (ho y hy).2.1) (Ev.pos rfl (rFacts_l0 l hl ho r (i + 1) g4))
theorem rFacts_ev (l : List Fact) (hl : l.length ≤ 9223372036854775806) (ho : ∀ f ∈ l, okF f) : Ev (fun k => lambrequinref14_Facts.f k l l) true := by
  unfold lambrequinref14_Facts.f
  exact Ev.pos rfl (rFacts_l0 l hl ho l 0 rfl)
end Go.Proofs.YtoekfmdcplphmaaGreat.H
namespace Go.Proofs.YtoekfmdcplphmaaGreat.H
open Go.RowKit Go.Proofs.YtoekfmdcplphmaaGreatW.PrintWords Go.Proofs.YtoekfmdcplphmaaGreatW.PrintLast Go.Proofs.YtoekfmdcplphmaaGreatW.PrintMore
attribute [local go_sem] max2_int min2_int max_two min_two max_three min_three max_four min_four
def lambrequinref09_In.l0 : Nat → List ByteArray → ByteArray → Int → Option (Bool)
 | 0, _, _, _ => none
 | k + 1, x0, x1, x5 => if x5 < (x0.length : Int) then (if 0 ≤ x5 then (if (rdOf ByteArray.empty x0 x5).toList = x1.toList then (some true) else (lambrequinref09_In.l0 k x0 x1 (wrap64 (x5 + 1)))) else (none)) else (some false)
def lambrequinref09_In.f (k : Nat) (l0 : List ByteArray) (a1 : ByteArray) : Option (Bool) := lambrequinref09_In.l0 k l0 a1 0
theorem lambrequinref09_In.mono_l : ∀ k, (∀ y0 y1 y2, LeO (lambrequinref09_In.l0 k y0 y1 y2) (lambrequinref09_In.l0 (k + 1) y0 y1 y2))
 | 0 => fun _ _ _ r h => by simp [lambrequinref09_In.l0] at h
 | k + 1 => by
  have ih0 := lambrequinref09_In.mono_l k
  intro y0 y1 y2
  unfold lambrequinref09_In.l0
  repeat' first
  | (with_reducible exact ih0 _ _ _)
  | (with_reducible exact LeO.refl _)
  | (with_reducible exact LeO.none _)
  | (with_reducible refine LeO.ite ?_ ?_)
  | (with_reducible refine LeO.bind ?_ (fun _ => ?_))
  | exact ih0 _ _ _
  | exact LeO.none _
  | refine LeO.ite ?_ ?_
  | refine LeO.bind ?_ (fun _ => ?_)
theorem lambrequinref09_In.mono : ∀ a0 a1 k, LeO (lambrequinref09_In.f k a0 a1) (lambrequinref09_In.f (k + 1) a0 a1) := by
 intro a0 a1 k
 have ih0 := lambrequinref09_In.mono_l k
 unfold lambrequinref09_In.f
 repeat' first
   | (with_reducible exact ih0 _ _ _)
   | (with_reducible exact LeO.refl _)
   | (with_reducible exact LeO.none _)
   | (with_reducible refine LeO.ite ?_ ?_)
   | (with_reducible refine LeO.bind ?_ (fun _ => ?_))
   | exact ih0 _ _ _
   | exact LeO.none _
   | refine LeO.ite ?_ ?_
   | refine LeO.bind ?_ (fun _ => ?_)
set_option maxHeartbeats 8000000 in
set_option maxRecDepth 100000 in
theorem lambrequinref09_In.calls (k : Nat) (A0 : Option Addr) (c0 : Nat) (l0 : List ByteArray) (a1 : ByteArray) (r : Bool) (w : World) (hr0 : Kd.C Kd.string w A0 l0.length l0) (hc0 : l0.length ≤ c0) (h : lambrequinref09_In.f k l0 a1 = some r) :
  Calls Tryz.prog 53 #[.slice A0 l0.length c0, .string a1] w fun e w' => e = .returned (.bool r) ∧ Drawn0 w w' := by
 have HR0 := am hr0
 have HC0 := am hc0
 clear hr0 hc0
 have H : (lambrequinref09_In.l0 k l0 a1 0) = some r := h
 clear h
 have H' := am H
 clear H
 go_enter Tryz.func53, Tryz.ntmps53
 go_wp2
 go_loopg [5] k (fun kq v5 w' => ∃ (x5_1 : Int), v5 = .int .i64 x5_1 ∧ Aside0 (lambrequinref09_In.l0 kq l0 a1 x5_1 = some r) ∧ Aside0 (kq ≤ k) ∧ Drawn0 w w')
 case atStart => exact ⟨(0), (by first | rfl | (simp; done) | (simp [*]; done)), H', ⟨Nat.le_refl _⟩, by repeat (first | exact Drawn0.refl _ | apply Drawn0.step)⟩
 case round =>
  clear H'
  try clear p2
  obtain ⟨x5_1, rfl, HA, HK1, ⟨m1, rfl⟩⟩ := hrel
  cases gk with
  | zero => exact absurd HA.out (by simp [lambrequinref09_In.l0])
  | succ k1 =>
   have H := HA.out
   clear HA
   simp only [lambrequinref09_In.l0] at H
   by_cases c3 : x5_1 < (l0.length : Int)
   rotate_left
   ·rw [if_neg c3] at H
    have c3b0 : decide (x5_1 < (l0.length : Int)) = false := decide_eq_false c3
    clear c3
    obtain rfl := Option.some.inj H
    go_wp2
    go_ret
    exact ⟨by first | rfl | (simp; done) | (simp [*]; done), by repeat (first | exact Drawn0.refl _ | apply Drawn0.step)⟩
   rw [if_pos c3] at H
   have c3b0 : decide (x5_1 < (l0.length : Int)) = true := decide_eq_true c3
   clear c3
   by_cases c4 : 0 ≤ x5_1
   rotate_left
   ·rw [if_neg c4] at H
    exact absurd H (by simp)
   rw [if_pos c4] at H
   have c4b0 : decide (0 ≤ x5_1) = true := decide_eq_true c4
   clear c4
   by_cases c5 : (rdOf ByteArray.empty l0 x5_1).toList = a1.toList
   ·rw [if_pos c5] at H
    have c5b0 : ((rdOf ByteArray.empty l0 x5_1).toList == a1.toList) = true := beq_iff_eq.mpr c5
    have c5b1 : ((rdOf ByteArray.empty l0 x5_1).toList != a1.toList) = false := bne_eq_false_iff_eq.mpr c5
    clear c5
    obtain rfl := Option.some.inj H
    have p101 : 0 ≤ (x5_1 : Int) := of_decide_eq_true (by first | (with_reducible assumption) | assumption)
    have q101 : x5_1 < (l0.length : Int) := of_decide_eq_true (by first | (with_reducible assumption) | assumption)
    obtain ⟨ad101, e101, hx101_0⟩ := Kd.at_string HR0.out x5_1 p101 q101
    cases e101
    replace p101 := eq_true p101
    replace q101 := eq_true q101
    go_wp2
    go_ret
    exact ⟨by first | rfl | (simp; done) | (simp [*]; done), by repeat (first | exact Drawn0.refl _ | apply Drawn0.step)⟩
   rw [if_neg c5] at H
   have c5b0 : ((rdOf ByteArray.empty l0 x5_1).toList == a1.toList) = false := beq_eq_false_iff_ne.mpr c5
   have c5b1 : ((rdOf ByteArray.empty l0 x5_1).toList != a1.toList) = true := bne_iff_ne.mpr c5
   have H' := am H
   clear H
   have p101 : 0 ≤ (x5_1 : Int) := of_decide_eq_true (by first | (with_reducible assumption) | assumption)
   have q101 : x5_1 < (l0.length : Int) := of_decide_eq_true (by first | (with_reducible assumption) | assumption)
   obtain ⟨ad101, e101, hx101_0⟩ := Kd.at_string HR0.out x5_1 p101 q101
   cases e101
   replace p101 := eq_true p101
   replace q101 := eq_true q101
   go_wp2
   go_roundg k1
   case measure => have := HK1.out; omega
   case rel => exact ⟨(wrap64 (x5_1 + 1)), (by first | rfl | (simp; done) | (simp [*]; done)), H', ⟨by have := HK1.out; omega⟩, by repeat (first | exact Drawn0.refl _ | apply Drawn0.step)⟩
end Go.Proofs.YtoekfmdcplphmaaGreat.H

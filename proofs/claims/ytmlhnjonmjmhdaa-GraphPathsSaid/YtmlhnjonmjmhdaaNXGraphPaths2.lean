/- RowGraphPaths of the seat's law GraphPaths: the law holds, under the statement's own conditions. -/
import Derived.Test.YtmlhnjonmjmhdaaNXGraphPaths
import Derived.Test.YtmlhnjonmjmhdaaNXGraphPaths1
import Derived.Test.YtmlhnjonmjmhdaaRows
import Derived.Test.YtmlhnjonmjmhdaaNW
import Derived.WalkKit
import Derived.ProofKit
import Derived.OpenShut
import Derived.ShutString
import Derived.ChangeOld
import Derived.Below
import Derived.SizedLaws
import Derived.Carry
set_option linter.unusedVariables false
set_option linter.unusedSimpArgs false
set_option linter.unusedSectionVars false
namespace Go.Proofs.Ytmlhnjonmjmhdaa.H
open Go.RowKit Go.Proofs.YtmlhnjonmjmhdaaW.PrintWords Go.Proofs.YtmlhnjonmjmhdaaW.PrintLast Go.Proofs.YtmlhnjonmjmhdaaW.PrintMore
attribute [local go_sem] max2_int min2_int max_two min_two max_three min_three max_four min_four
def lambrequinlaw10_ends.l0 : Nat → List (BPair) → Int → List (IPair) → Int → Option (Int × (List (IPair)))
 | 0, _, _, _, _ => none
 | k + 1, x1, x6, x7, x8 => if x8 < (x1.length : Int) then (if x8 < 100 then (if 0 ≤ x8 then (if x6 = 0 then (none) else (if x7.length < 8796093022208 then (lambrequinlaw10_ends.l0 k x1 x6 (x7 ++ [(⟨Int.tmod (wrap64 ((rd_T45 x1 x8).fst)) x6, Int.tmod (wrap64 ((rd_T45 x1 x8).snd)) x6⟩ : IPair)]) (wrap64 (x8 + 1))) else (none))) else (none)) else (some (x6, x7))) else (some (x6, x7))
def lambrequinlaw10_ends.f (k : Nat) (a0 : Int) (l1 : List (BPair)) : Option (Int × (List (IPair))) := lambrequinlaw10_ends.l0 k l1 (wrap64 (1 + (wrap64 (Int.tmod a0 20)))) ([] : List (IPair)) 0
theorem lambrequinlaw10_ends.mono_l : ∀ k, (∀ y0 y1 y2 y3, LeO (lambrequinlaw10_ends.l0 k y0 y1 y2 y3) (lambrequinlaw10_ends.l0 (k + 1) y0 y1 y2 y3))
 | 0 => fun _ _ _ _ r h => by simp [lambrequinlaw10_ends.l0] at h
 | k + 1 => by
  have ih0 := lambrequinlaw10_ends.mono_l k
  ·intro y0 y1 y2 y3
   unfold lambrequinlaw10_ends.l0
   repeat' first
   | (with_reducible exact ih0 _ _ _ _)
   | (with_reducible exact LeO.refl _)
   | (with_reducible exact LeO.none _)
   | (with_reducible refine LeO.ite ?_ ?_)
   | (with_reducible refine LeO.bind ?_ (fun _ => ?_))
   | exact ih0 _ _ _ _
   | exact LeO.none _
   | refine LeO.ite ?_ ?_
   | refine LeO.bind ?_ (fun _ => ?_)
theorem lambrequinlaw10_ends.mono : ∀ a0 a1 k, LeO (lambrequinlaw10_ends.f k a0 a1) (lambrequinlaw10_ends.f (k + 1) a0 a1) := by
 intro a0 a1 k
 have ih0 := lambrequinlaw10_ends.mono_l k
 unfold lambrequinlaw10_ends.f
 repeat' first
   | (with_reducible exact ih0 _ _ _ _)
   | (with_reducible exact LeO.refl _)
   | (with_reducible exact LeO.none _)
   | (with_reducible refine LeO.ite ?_ ?_)
   | (with_reducible refine LeO.bind ?_ (fun _ => ?_))
   | exact ih0 _ _ _ _
   | exact LeO.none _
   | refine LeO.ite ?_ ?_
   | refine LeO.bind ?_ (fun _ => ?_)
def lambrequinlaw10_ends.T6 : Bool × List (List Nat × List Nat) := (true, [([], []), ([], []), ([], []), ([1, 2], [1, 2]), ([3], [3]), ([4], [4]), ([5], [5]), ([], []), ([6, 7], [6, 7]), ([], []), ([], []), ([9, 10], [9, 10]), ([11], [11]), ([12], [12]), ([13], [13]), ([], []), ([14, 15], [14, 15]), ([8, 16], [8, 16]), ([17], [17]), ([0, 18], [0, 18]), ([19, 19, 0, 1, 2, 3, 4, 5, 6, 7, 8, 9, 10, 11, 12, 13, 14, 15, 16, 17, 18, 19], [0, 19])])
def lambrequinlaw10_ends.B6 : List Nat := [0, 0, 0, 6, 14, 30, 62, 0, 254, 0, 0, 1536, 3584, 7680, 15872, 0, 65024, 131070, 262142, 524287, 1048575]
theorem lambrequinlaw10_ends.tab6 : rtab .any (opsOf Try.f15 6) = lambrequinlaw10_ends.T6 := by kernel_rfl
theorem lambrequinlaw10_ends.bits6 : waitsOk lambrequinlaw10_ends.T6.2 lambrequinlaw10_ends.B6 = true := by kernel_rfl
set_option maxHeartbeats 8000000 in
set_option maxRecDepth 100000 in
theorem lambrequinlaw10_ends.calls (k : Nat) (a0 : Int) (A1 : Option Addr) (c1 : Nat) (l1 : List (BPair)) (r1 : Int) (r2 : List (IPair)) (w : World) (hr1 : Kd.C k45 w A1 l1.length l1) (hc1 : l1.length ≤ c1) (h : lambrequinlaw10_ends.f k a0 l1 = some (r1, r2)) :
  Calls Try.prog 15 #[.int .u8 a0, .slice A1 l1.length c1] w fun e w' => ∃ v1_ : Value, e = .returned (.tuple #[.int .i64 r1, v1_]) ∧ Kd.R k27 27 w' w.heap.size (fun _ => True) v1_ r2 ∧ Below w.heap.size w w' := by
 have hu27 := Try.underlying27
 have HR1 := Aside0.mk hr1
 have HC1 := Aside0.mk hc1
 clear hr1 hc1
 have HB := Aside0.mk (Below.refl w.heap.size w)
 have H : (lambrequinlaw10_ends.l0 k l1 (wrap64 (1 + (wrap64 (Int.tmod a0 20)))) ([] : List (IPair)) 0) = some (r1, r2) := h
 clear h
 have H' := Aside0.mk H
 clear H
 go_enter Try.func15, Try.ntmps15
 go_wp2
 go_loopg [7, 8] k (fun kq v7 v8 w' => ∃ (x7_1 : List (IPair)) (x8_1 : Int), v8 = .int .i64 x8_1 ∧ Aside0 (lambrequinlaw10_ends.l0 kq l1 (wrap64 (1 + (wrap64 (Int.tmod a0 20)))) x7_1 x8_1 = some (r1, r2)) ∧ Aside0 (kq ≤ k) ∧ Aside0 (Kd.R k27 27 w' w.heap.size (fun _ => True) v7 x7_1) ∧ Aside0 (Below w.heap.size w w'))
 case atStart => exact ⟨(([] : List (IPair))), (0), (by first | rfl | (simp; done) | (simp [*]; done)), H', ⟨Nat.le_refl _⟩, ⟨by first | exact Kd.R_nil _ _ _ _ _ | exact Kd.N_nil _ _ _ _ _ | exact Kd.V_nil _ _ _ _ _ | exact Kd.Q_nil _ _ _ _ _ | exact Kd.S_nil _ _ _ _ _⟩, ⟨by repeat (first | (with_reducible first | exact HB.out | apply below_alloc | apply pw_below_drewN | apply below_drew1) | exact HB.out)⟩⟩
 case round =>
  clear H'
  try clear c1
  try clear p2
  obtain ⟨x7_1, x8_1, rfl, HA, HK1, HO_7, HB⟩ := hrel
  cases gk with
  | zero => exact absurd HA.out (by simp [lambrequinlaw10_ends.l0])
  | succ k1 =>
   have H := HA.out
   clear HA
   simp only [lambrequinlaw10_ends.l0] at H
   by_cases c3 : x8_1 < (l1.length : Int)
   ·rw [if_pos c3] at H
    have c3b0 : decide (x8_1 < (l1.length : Int)) = true := decide_eq_true c3
    clear c3
    by_cases c4 : x8_1 < 100
    ·rw [if_pos c4] at H
     have c4b0 : decide (x8_1 < 100) = true := decide_eq_true c4
     clear c4
     by_cases c5 : 0 ≤ x8_1
     ·rw [if_pos c5] at H
      have c5b0 : decide (0 ≤ x8_1) = true := decide_eq_true c5
      clear c5
      by_cases c6 : (wrap64 (1 + (wrap64 (Int.tmod a0 20)))) = 0
      ·rw [if_pos c6] at H
       exact absurd H (by simp)
      ·rw [if_neg c6] at H
       have c6b0 : ((wrap64 (1 + (wrap64 (Int.tmod a0 20)))) == 0) = false := beq_eq_false_iff_ne.mpr c6
       have c6b1 : ((wrap64 (1 + (wrap64 (Int.tmod a0 20)))) != 0) = true := bne_iff_ne.mpr c6
       by_cases c7 : x7_1.length < 8796093022208
       ·rw [if_pos c7] at H
        have LMc7 := Aside0.mk c7
        clear c7
        obtain ⟨y103, hy103⟩ : ∃ y_ : List (IPair), y_ = (x7_1 ++ [(⟨Int.tmod (wrap64 ((rd_T45 l1 x8_1).fst)) (wrap64 (1 + (wrap64 (Int.tmod a0 20)))), Int.tmod (wrap64 ((rd_T45 l1 x8_1).snd)) (wrap64 (1 + (wrap64 (Int.tmod a0 20))))⟩ : IPair)]) := ⟨_, rfl⟩
        replace H : (lambrequinlaw10_ends.l0 k1 l1 (wrap64 (1 + (wrap64 (Int.tmod a0 20)))) y103 (wrap64 (x8_1 + 1))) = some (r1, r2) := by first | (rw [hy103]; with_reducible exact H) | (have H2_ := (Option.bind_some _ _).symm.trans H; rw [hy103]; with_reducible exact H2_) | (have H2_ := (Option.bind_some _ _).symm.trans H; with_reducible exact H2_) | with_reducible exact H | (rw [hy103]; exact H) | exact H
        have Ny103 := Aside0.mk hy103
        clear hy103
        have H' := Aside0.mk H
        clear H
        try go_wp2
        have n0_ := Aside0.mk (Kd.R_drew HO_7.out)
        have n1_ := Aside0.mk (below_drew1 HB.out)
        clear HO_7
        clear HB
        have HO_7 := n0_
        have HB := n1_
        clear n0_ n1_
        have p101 : 0 ≤ (x8_1 : Int) := of_decide_eq_true (by first | (with_reducible assumption) | assumption)
        have q101 : x8_1 < (l1.length : Int) := of_decide_eq_true (by first | (with_reducible assumption) | assumption)
        obtain ⟨ad101, e101, hx101_0, hx101_1⟩ := at_T45 HR1.out x8_1 p101 q101
        have hw101_1 := hx101_1
        have hw101_0 := hx101_0
        cases e101
        replace hx101_0 := (HB.out.cell (blt_ hx101_0)).trans hx101_0
        replace hx101_1 := (HB.out.cell (blt_ hx101_1)).trans hx101_1
        replace p101 := eq_true p101
        replace q101 := eq_true q101
        have p102 : 0 ≤ (x8_1 : Int) := of_decide_eq_true (by first | (with_reducible assumption) | assumption)
        have q102 : x8_1 < (l1.length : Int) := of_decide_eq_true (by first | (with_reducible assumption) | assumption)
        obtain ⟨ad102, e102, hx102_0, hx102_1⟩ := at_T45 HR1.out x8_1 p102 q102
        have hw102_1 := hx102_1
        have hw102_0 := hx102_0
        obtain rfl : ad101 = ad102 := (by injection e102)
        replace hx102_0 := (HB.out.cell (blt_ hx102_0)).trans hx102_0
        replace hx102_1 := (HB.out.cell (blt_ hx102_1)).trans hx102_1
        replace p102 := eq_true p102
        replace q102 := eq_true q102
        refine start_ (n := 21) (S := fun w' => w'.cell? (ad101.add ((x8_1).toNat * 2)) = some (.int .u8 ((rd_T45 l1 x8_1).fst)) ∧ w'.cell? ⟨(ad101.add ((x8_1).toNat * 2)).block, (ad101.add ((x8_1).toNat * 2)).off + 1, none⟩ = some (.int .u8 ((rd_T45 l1 x8_1).snd)) ∧ w'.cell? (ad101.add ((x8_1).toNat * 2)) = some (.int .u8 ((rd_T45 l1 x8_1).fst)) ∧ w'.cell? ⟨(ad101.add ((x8_1).toNat * 2)).block, (ad101.add ((x8_1).toNat * 2)).off + 1, none⟩ = some (.int .u8 ((rd_T45 l1 x8_1).snd))) (ds := []) #[false, false, false, false, false, false, false, false, false, false, false, false, false, false, false, false, false, false, false, false, false] (by kernel_rfl) rfl rfl ⟨((HB.out.cell (blt_ hw101_0)).trans hw101_0), ((HB.out.cell (blt_ hw101_1)).trans hw101_1), ((HB.out.cell (blt_ hw102_0)).trans hw102_0), ((HB.out.cell (blt_ hw102_1)).trans hw102_1)⟩ (fun hHeld => ?_); refine with_tabW lambrequinlaw10_ends.tab6 lambrequinlaw10_ends.bits6 (fun HT_ HW_ => ?_)
        generalize wr.drew = w8 at HO_7 HB hx101_0 hx101_1 hx102_0 hx102_1 hHeld ⊢
        refine pure_ (i := 0) (N := some 23) (v := ?_) (a' := ?_) #[true, false, false, false, false, false, false, false, false, false, false, false, false, false, false, false, false, false, false, false, false] rfl rfl (any_of HT_.out (by kernel_rfl)) (fun _ _ _ h => h) (Or.inl ⟨by rfl, ?_⟩) ?_ ?_
        rotate_left
        ·intro w'
         go_simp
         with_reducible rfl
        rotate_left
        ·simp only [Act.put, List.setIfInBounds_toArray, List.set_cons_zero, List.set_cons_succ, i64_w, i32_w]
         rfl
        refine pure_ (i := 1) (N := some 24) (v := ?_) (a' := ?_) #[true, true, false, false, false, false, false, false, false, false, false, false, false, false, false, false, false, false, false, false, false] rfl rfl (any_of HT_.out (by kernel_rfl)) (fun _ _ _ h => h) (Or.inl ⟨by rfl, ?_⟩) ?_ ?_
        rotate_left
        ·intro w'
         go_simp
         with_reducible rfl
        rotate_left
        ·simp only [Act.put, List.setIfInBounds_toArray, List.set_cons_zero, List.set_cons_succ, i64_w, i32_w]
         rfl
        refine pure_ (i := 2) (N := some 25) (v := ?_) (a' := ?_) #[true, true, true, false, false, false, false, false, false, false, false, false, false, false, false, false, false, false, false, false, false] rfl rfl (any_of HT_.out (by kernel_rfl)) (fun _ _ _ h => h) (Or.inl ⟨by rfl, ?_⟩) ?_ ?_
        rotate_left
        ·intro w'
         go_simp
         with_reducible rfl
        rotate_left
        ·simp only [Act.put, List.setIfInBounds_toArray, List.set_cons_zero, List.set_cons_succ, i64_w, i32_w]
         rfl
        refine pure_ (i := 3) (N := some 26) (v := ?_) (a' := ?_) #[true, true, true, true, false, false, false, false, false, false, false, false, false, false, false, false, false, false, false, false, false] rfl rfl (any_of HT_.out (by kernel_rfl)) (fun _ _ _ h => h) (Or.inl ⟨by rfl, ?_⟩) ?_ ?_
        rotate_left
        ·intro w'
         go_simp
         with_reducible rfl
        rotate_left
        ·simp only [Act.put, List.setIfInBounds_toArray, List.set_cons_zero, List.set_cons_succ, i64_w, i32_w]
         rfl
        refine pure_ (i := 4) (N := some 27) (v := ?_) (a' := ?_) #[true, true, true, true, true, false, false, false, false, false, false, false, false, false, false, false, false, false, false, false, false] rfl rfl (any_of HT_.out (by kernel_rfl)) (fun _ _ _ h => h) (Or.inl ⟨by rfl, ?_⟩) ?_ ?_
        rotate_left
        ·intro w'
         go_simp
         with_reducible rfl
        rotate_left
        ·simp only [Act.put, List.setIfInBounds_toArray, List.set_cons_zero, List.set_cons_succ, i64_w, i32_w]
         rfl
        refine pure_ (i := 7) (N := some 30) (v := ?_) (a' := ?_) #[true, true, true, true, true, false, false, true, false, false, false, false, false, false, false, false, false, false, false, false, false] rfl rfl (any_of HT_.out (by kernel_rfl)) (fun _ _ _ h => h) (Or.inl ⟨by rfl, ?_⟩) ?_ ?_
        rotate_left
        ·intro w'
         go_simp
         with_reducible rfl
        rotate_left
        ·simp only [Act.put, List.setIfInBounds_toArray, List.set_cons_zero, List.set_cons_succ, i64_w, i32_w]
         rfl
        refine pure_ (i := 9) (N := some 32) (v := ?_) (a' := ?_) #[true, true, true, true, true, false, false, true, false, true, false, false, false, false, false, false, false, false, false, false, false] rfl rfl (any_of HT_.out (by kernel_rfl)) (fun _ _ _ h => h) (Or.inl ⟨by rfl, ?_⟩) ?_ ?_
        rotate_left
        ·intro w'
         go_simp
         with_reducible rfl
        rotate_left
        ·simp only [Act.put, List.setIfInBounds_toArray, List.set_cons_zero, List.set_cons_succ, i64_w, i32_w]
         rfl
        refine pure_ (i := 10) (N := some 33) (v := ?_) (a' := ?_) #[true, true, true, true, true, false, false, true, false, true, true, false, false, false, false, false, false, false, false, false, false] rfl rfl (any_of HT_.out (by kernel_rfl)) (fun _ _ _ h => h) (Or.inl ⟨by rfl, ?_⟩) ?_ ?_
        rotate_left
        ·intro w'
         go_simp
         with_reducible rfl
        rotate_left
        ·simp only [Act.put, List.setIfInBounds_toArray, List.set_cons_zero, List.set_cons_succ, i64_w, i32_w]
         rfl
        refine pure_ (i := 11) (N := some 34) (v := ?_) (a' := ?_) #[true, true, true, true, true, false, false, true, false, true, true, true, false, false, false, false, false, false, false, false, false] rfl rfl (any_of HT_.out (by kernel_rfl)) (fun _ _ _ h => h) (Or.inl ⟨by rfl, ?_⟩) ?_ ?_
        rotate_left
        ·intro w'
         go_simp
         with_reducible rfl
        rotate_left
        ·simp only [Act.put, List.setIfInBounds_toArray, List.set_cons_zero, List.set_cons_succ, i64_w, i32_w]
         rfl
        refine pure_ (i := 12) (N := some 35) (v := ?_) (a' := ?_) #[true, true, true, true, true, false, false, true, false, true, true, true, true, false, false, false, false, false, false, false, false] rfl rfl (any_of HT_.out (by kernel_rfl)) (fun _ _ _ h => h) (Or.inl ⟨by rfl, ?_⟩) ?_ ?_
        rotate_left
        ·intro w'
         go_simp
         with_reducible rfl
        rotate_left
        ·simp only [Act.put, List.setIfInBounds_toArray, List.set_cons_zero, List.set_cons_succ, i64_w, i32_w]
         rfl
        refine pure_ (i := 15) (N := some 38) (v := ?_) (a' := ?_) #[true, true, true, true, true, false, false, true, false, true, true, true, true, false, false, true, false, false, false, false, false] rfl rfl (any_of HT_.out (by kernel_rfl)) (fun _ _ _ h => h) (Or.inl ⟨by rfl, ?_⟩) ?_ ?_
        rotate_left
        ·intro w'
         go_simp
         with_reducible rfl
        rotate_left
        ·simp only [Act.put, List.setIfInBounds_toArray, List.set_cons_zero, List.set_cons_succ, i64_w, i32_w]
         rfl
        refine take_ (i := 5) (N := some 28) (v := ?_) (a' := ?_) #[true, true, true, true, true, true, false, true, false, true, true, true, true, false, false, true, false, false, false, false, false] rfl rfl (take_ofW HT_.out HW_.out (by kernel_rfl)) (fun _ _ _ h => h) (Or.inl ⟨by rfl, ?_⟩) hHeld ?_ ?_
        rotate_left
        ·rintro w' ⟨s0, s1, s2, s3⟩
         go_simp
         with_reducible rfl
        rotate_left
        ·simp only [Act.put, List.setIfInBounds_toArray, List.set_cons_zero, List.set_cons_succ, i64_w, i32_w]
         rfl
        refine pure_ (i := 6) (N := some 29) (v := ?_) (a' := ?_) #[true, true, true, true, true, true, true, true, false, true, true, true, true, false, false, true, false, false, false, false, false] rfl rfl (any_of HT_.out (by kernel_rfl)) (fun _ _ _ h => h) (Or.inl ⟨by rfl, ?_⟩) ?_ ?_
        rotate_left
        ·intro w'
         go_simp
         with_reducible rfl
        rotate_left
        ·simp only [Act.put, List.setIfInBounds_toArray, List.set_cons_zero, List.set_cons_succ, i64_w, i32_w]
         rfl
        refine pure_ (i := 8) (N := some 31) (v := ?_) (a' := ?_) #[true, true, true, true, true, true, true, true, true, true, true, true, true, false, false, true, false, false, false, false, false] rfl rfl (any_of HT_.out (by kernel_rfl)) (fun _ _ _ h => h) (Or.inl ⟨by rfl, ?_⟩) ?_ ?_
        rotate_left
        ·intro w'
         go_simp
         with_reducible rfl
        rotate_left
        ·simp only [Act.put, List.setIfInBounds_toArray, List.set_cons_zero, List.set_cons_succ, i64_w, i32_w]
         rfl
        refine take_ (i := 13) (N := some 36) (v := ?_) (a' := ?_) #[true, true, true, true, true, true, true, true, true, true, true, true, true, true, false, true, false, false, false, false, false] rfl rfl (take_ofW HT_.out HW_.out (by kernel_rfl)) (fun _ _ _ h => h) (Or.inl ⟨by rfl, ?_⟩) hHeld ?_ ?_
        rotate_left
        ·rintro w' ⟨s0, s1, s2, s3⟩
         go_simp
         with_reducible rfl
        rotate_left
        ·simp only [Act.put, List.setIfInBounds_toArray, List.set_cons_zero, List.set_cons_succ, i64_w, i32_w]
         rfl
        refine pure_ (i := 14) (N := some 37) (v := ?_) (a' := ?_) #[true, true, true, true, true, true, true, true, true, true, true, true, true, true, true, true, false, false, false, false, false] rfl rfl (any_of HT_.out (by kernel_rfl)) (fun _ _ _ h => h) (Or.inl ⟨by rfl, ?_⟩) ?_ ?_
        rotate_left
        ·intro w'
         go_simp
         with_reducible rfl
        rotate_left
        ·simp only [Act.put, List.setIfInBounds_toArray, List.set_cons_zero, List.set_cons_succ, i64_w, i32_w]
         rfl
        refine pure_ (i := 16) (N := some 39) (v := ?_) (a' := ?_) #[true, true, true, true, true, true, true, true, true, true, true, true, true, true, true, true, true, false, false, false, false] rfl rfl (any_of HT_.out (by kernel_rfl)) (fun _ _ _ h => h) (Or.inl ⟨by rfl, ?_⟩) ?_ ?_
        rotate_left
        ·intro w'
         go_simp
         with_reducible rfl
        rotate_left
        ·simp only [Act.put, List.setIfInBounds_toArray, List.set_cons_zero, List.set_cons_succ, i64_w, i32_w]
         rfl
        refine pure_ (i := 17) (N := some 40) (v := ?_) (a' := ?_) #[true, true, true, true, true, true, true, true, true, true, true, true, true, true, true, true, true, true, false, false, false] rfl rfl (any_of HT_.out (by kernel_rfl)) (fun _ _ _ h => h) (Or.inl ⟨by rfl, ?_⟩) ?_ ?_
        rotate_left
        ·intro w'
         go_simp
         with_reducible rfl
        rotate_left
        ·simp only [Act.put, List.setIfInBounds_toArray, List.set_cons_zero, List.set_cons_succ, i64_w, i32_w]
         rfl
        refine one_ (i := 18) (N := some 41) #[true, true, true, true, true, true, true, true, true, true, true, true, true, true, true, true, true, true, true, false, false] rfl rfl (one_of HT_.out (by kernel_rfl)) (by decide) (fun K hK => ?_)
        refine value_ (w1 := ?_) (v := ?_) (by rfl) rfl ?_ ?_
        rotate_left 2
        ·go_simp
         constructor
         ·rfl
         ·rfl
        refine hK.out _ _ ⟨(World.cell?_alloc_lt _ _ _ (blt_ (((HB.out.cell (blt_ hw101_0)).trans hw101_0)))).trans (((HB.out.cell (blt_ hw101_0)).trans hw101_0)), (World.cell?_alloc_lt _ _ _ (blt_ (((HB.out.cell (blt_ hw101_1)).trans hw101_1)))).trans (((HB.out.cell (blt_ hw101_1)).trans hw101_1)), (World.cell?_alloc_lt _ _ _ (blt_ (((HB.out.cell (blt_ hw102_0)).trans hw102_0)))).trans (((HB.out.cell (blt_ hw102_0)).trans hw102_0)), (World.cell?_alloc_lt _ _ _ (blt_ (((HB.out.cell (blt_ hw102_1)).trans hw102_1)))).trans (((HB.out.cell (blt_ hw102_1)).trans hw102_1))⟩ (fun hHeld => ?_)
        clear hK K
        refine norm_ (a' := ?_) ?_ ?_
        rotate_left
        ·show Act.put _ (some 41) _ = _
         simp only [Act.put, List.setIfInBounds_toArray, List.set_cons_zero, List.set_cons_succ, i64_w, i32_w]
         rfl
        refine one_ (i := 19) (N := some 42) #[true, true, true, true, true, true, true, true, true, true, true, true, true, true, true, true, true, true, true, true, false] rfl rfl (one_of HT_.out (by kernel_rfl)) (by decide) (fun K hK => ?_)
        refine Kd.R_append_step k27 (w0 := w) w.heap.size (by rfl) (.tmp 23) (.tmp 41) 24 27 (.agg #[(.int .i64 0), (.int .i64 0)]) 16 rfl Try.underlying24 info27 rfl (by decide) (by omega) u7 x7_1 (⟨Int.tmod (wrap64 ((rd_T45 l1 x8_1).fst)) (wrap64 (1 + (wrap64 (Int.tmod a0 20)))), Int.tmod (wrap64 ((rd_T45 l1 x8_1).snd)) (wrap64 (1 + (wrap64 (Int.tmod a0 20))))⟩ : IPair) [.int .i64 (Int.tmod (wrap64 ((rd_T45 l1 x8_1).fst)) (wrap64 (1 + (wrap64 (Int.tmod a0 20))))), .int .i64 (Int.tmod (wrap64 ((rd_T45 l1 x8_1).snd)) (wrap64 (1 + (wrap64 (Int.tmod a0 20)))))] (fun _ => True) (fun _ => False) rfl rfl ?aP (fun _ hk => hk.elim) ?aF ?aO ?aB ?aS ?aL ?_
        (case aP => exact k27_mkM _ _ _ (⟨Int.tmod (wrap64 ((rd_T45 l1 x8_1).fst)) (wrap64 (1 + (wrap64 (Int.tmod a0 20)))), Int.tmod (wrap64 ((rd_T45 l1 x8_1).snd)) (wrap64 (1 + (wrap64 (Int.tmod a0 20))))⟩ : IPair))
        (case aB => exact (by repeat (first | (with_reducible first | exact HB.out | apply below_alloc | apply pw_below_drewN | apply below_drew1) | exact HB.out)))
        (case aF => exact (fun _ _ => trivial))
        (case aO => exact (by (with_reducible repeat (first | apply Kd.R_alloc | apply Kd.R_drewN | apply Kd.R_drew)); exact HO_7.out))
        (case aS => exact (below_size (by repeat (first | (with_reducible first | exact HB.out | apply below_alloc | apply pw_below_drewN | apply below_drew1) | exact HB.out))))
        (case aL => have := LMc7.out; omega)
        intro v104 w9 ho hb hg hat
        rw [← Ny103.out] at ho
        have n0_ := Aside0.mk (hb)
        have n1_ := Aside0.mk (ho)
        clear HB
        clear HO_7
        have HB := n0_
        have HO105 := n1_
        clear n0_ n1_
        clear ho hb hg hat
        refine hK.out _ _ ⟨((HB.out.cell (blt_ hw101_0)).trans hw101_0), ((HB.out.cell (blt_ hw101_1)).trans hw101_1), ((HB.out.cell (blt_ hw102_0)).trans hw102_0), ((HB.out.cell (blt_ hw102_1)).trans hw102_1)⟩ (fun hHeld => ?_)
        clear hK K
        refine norm_ (a' := ?_) ?_ ?_
        rotate_left
        ·show Act.put _ (some 42) _ = _
         simp only [Act.put, List.setIfInBounds_toArray, List.set_cons_zero, List.set_cons_succ, i64_w, i32_w]
         rfl
        refine pure_ (i := 20) (N := some 7) (v := ?_) (a' := ?_) #[true, true, true, true, true, true, true, true, true, true, true, true, true, true, true, true, true, true, true, true, true] rfl rfl (any_of HT_.out (by kernel_rfl)) (fun _ _ _ h => h) (Or.inl ⟨by rfl, ?_⟩) ?_ ?_
        rotate_left
        ·intro w'
         go_simp
         with_reducible rfl
        rotate_left
        ·simp only [Act.put, List.setIfInBounds_toArray, List.set_cons_zero, List.set_cons_succ, i64_w, i32_w]
         rfl
        refine done_ (done_of HT_.out (by kernel_rfl)) ?_
        try go_wp2
        go_roundg k1
        case measure => have := HK1.out; omega
        case rel => exact ⟨(y103), (wrap64 (x8_1 + 1)), (by first | rfl | (simp; done) | (simp [*]; done)), H', ⟨by have := HK1.out; omega⟩, ⟨by (with_reducible repeat (first | apply Kd.R_alloc | apply Kd.R_drewN | apply Kd.R_drew)); exact HO105.out⟩, ⟨by repeat (first | (with_reducible first | exact HB.out | apply below_alloc | apply pw_below_drewN | apply below_drew1) | exact HB.out)⟩⟩
       ·rw [if_neg c7] at H
        exact absurd H (by simp)
     ·rw [if_neg c5] at H
      exact absurd H (by simp)
    ·rw [if_neg c4] at H
     have c4b0 : decide (x8_1 < 100) = false := decide_eq_false c4
     clear c4
     simp only [Option.some.injEq, Prod.mk.injEq] at H
     obtain ⟨rfl, rfl⟩ := H
     go_wp2
     go_ret2
     exact ⟨_, by first | rfl | (simp [errW_none, errW_some] <;> rfl) | (simp [*, errW_none, errW_some] <;> rfl), by (with_reducible repeat (first | apply Kd.R_alloc | apply Kd.R_drewN | apply Kd.R_drew)); exact HO_7.out, by repeat (first | (with_reducible first | exact HB.out | apply below_alloc | apply pw_below_drewN | apply below_drew1) | exact HB.out)⟩
   ·rw [if_neg c3] at H
    have c3b0 : decide (x8_1 < (l1.length : Int)) = false := decide_eq_false c3
    clear c3
    simp only [Option.some.injEq, Prod.mk.injEq] at H
    obtain ⟨rfl, rfl⟩ := H
    go_wp2
    go_ret2
    exact ⟨_, by first | rfl | (simp [errW_none, errW_some] <;> rfl) | (simp [*, errW_none, errW_some] <;> rfl), by (with_reducible repeat (first | apply Kd.R_alloc | apply Kd.R_drewN | apply Kd.R_drew)); exact HO_7.out, by repeat (first | (with_reducible first | exact HB.out | apply below_alloc | apply pw_below_drewN | apply below_drew1) | exact HB.out)⟩
end Go.Proofs.Ytmlhnjonmjmhdaa.H
/- GraphOrder: in whatever order edges come, and however often, all is told alike -/
namespace Go.Proofs.Ytmlhnjonmjmhdaa.H
open Go.RowKit Go.Proofs.YtmlhnjonmjmhdaaW.PrintWords
theorem tmod_in {v n : Int} (h : 0 ≤ v) (hn : 0 < n) : 0 ≤ Int.tmod v n ∧ Int.tmod v n < n := by
  rw [Int.tmod_eq_emod_of_nonneg h]
  exact ⟨Int.emod_nonneg _ (by omega), Int.emod_lt_of_pos _ hn⟩
def byteP (e : BPair) : Prop := 0 ≤ e.fst ∧ e.fst < 256 ∧ 0 ≤ e.snd ∧ e.snd < 256
theorem inE_bad {n : Nat} {es : List IPair} (h : inE n es) (hn : n ≤ 1000) : cleanBad (n : Int) es = false := by
  unfold cleanBad
  have : es.any (outP n) = false := by
    rw [List.any_eq_false]
    intro e he
    have := h e he
    unfold outP inW
    simp
    omega
  rw [this]
  simp
  omega
theorem byte_wf {v : Int} (h : (Lit.int .u8 v).wf = true) : 0 ≤ v ∧ v < 256 := by
  simp [Lit.wf, IntKind.min, IntKind.max, IntKind.signed, IntKind.bits] at h
  omega
theorem bytes_of {l : List BPair} (h : ∀ y ∈ l, bBPair y) : ∀ e ∈ l, byteP e := by
  intro e he
  obtain ⟨h1, h2⟩ := h e he
  exact ⟨(byte_wf h1).1, (byte_wf h1).2, (byte_wf h2).1, (byte_wf h2).2⟩
theorem ends_l0 {n : Nat} (hn : 0 < n) (l : List BPair) (hl : l.length ≤ 9223372036854775807) (hb : ∀ e ∈ l, byteP e) : ∀ (m i : Nat) (acc : List IPair), m = 100 - i → i ≤ 100 → acc.length = i → inE n acc → ∃ es, Ev (fun k => lambrequinlaw10_ends.l0 k l (n : Int) acc (i : Int)) ((n : Int), es) ∧ es.length ≤ 100 ∧ inE n es
  | 0, i, acc, hm, hi, ha, hin => by
    refine ⟨acc, ?_, by omega, hin⟩
    refine Ev.step (fun k => by rw [lambrequinlaw10_ends.l0]) ?_
    by_cases hc : (i : Int) < (l.length : Int)
    · exact Ev.pos hc (Ev.neg (by omega) (Ev.now _))
    · exact Ev.neg hc (Ev.now _)
  | m + 1, i, acc, hm, hi, ha, hin => by
    by_cases hc : (i : Int) < (l.length : Int)
    · obtain ⟨y, d, hd, hy⟩ := at_more (l := l) (n := i) (by omega)
      obtain ⟨h1, h2, h3, h4, h5⟩ := drop_more hd hl
      have e1 : rd_T45 l (i : Int) = y := h3 _
      have hyb := hb y (List.mem_of_getElem? hy)
      unfold byteP at hyb
      have w1 : wrap64 y.fst = y.fst := by unfold wrap64; omega
      have w2 : wrap64 y.snd = y.snd := by unfold wrap64; omega
      have t1 := tmod_in (v := y.fst) (n := (n : Int)) hyb.1 (by clear w1 w2 h5; omega)
      have t2 := tmod_in (v := y.snd) (n := (n : Int)) hyb.2.2.1 (by clear w1 w2 h5; omega)
      obtain ⟨es, he, hel, hee⟩ := ends_l0 hn l hl hb m (i + 1) (acc ++ [⟨Int.tmod y.fst n, Int.tmod y.snd n⟩]) (by clear w1 w2 h5; omega) (by clear w1 w2 h5; omega) (by rw [List.length_append, List.length_singleton, ha]) (fun e he => by
        rcases List.mem_append.1 he with he | he
        · exact hin e he
        · rw [List.mem_singleton.1 he]; exact ⟨t1.1, t1.2, t2.1, t2.2⟩)
      refine ⟨es, ?_, hel, hee⟩
      refine Ev.step (fun k => by rw [lambrequinlaw10_ends.l0]) ?_
      refine Ev.pos hc (Ev.pos ?_ (Ev.pos h2 (Ev.neg ?_ (Ev.pos ?_ ?_))))
      · clear w1 w2 h5; omega
      · clear w1 w2 h5; omega
      · clear w1 w2 h5; omega
      · rw [e1, w1, w2, h5]
        exact he
    · refine ⟨acc, ?_, by omega, hin⟩
      refine Ev.step (fun k => by rw [lambrequinlaw10_ends.l0]) ?_
      exact Ev.neg hc (Ev.now _)
theorem ends_ev (a0 : Int) (h0 : 0 ≤ a0) (h1 : a0 < 256) (l : List BPair) (hl : l.length ≤ 9223372036854775807) (hb : ∀ e ∈ l, byteP e) : ∃ (n : Nat) (es : List IPair), 0 < n ∧ n ≤ 20 ∧ Ev (fun k => lambrequinlaw10_ends.f k a0 l) ((n : Int), es) ∧ es.length ≤ 100 ∧ inE n es := by
  have ht := tmod_in (v := a0) (n := 20) h0 (by decide)
  obtain ⟨n, hn⟩ := Int.eq_ofNat_of_zero_le (a := 1 + Int.tmod a0 20) (by omega)
  have hn1 : 0 < n := by omega
  obtain ⟨es, he, hel, hee⟩ := ends_l0 hn1 l hl hb 100 0 [] rfl (by omega) rfl (fun e he => by cases he)
  refine ⟨n, es, hn1, by omega, ?_, hel, hee⟩
  unfold lambrequinlaw10_ends.f
  have e1 : wrap64 (Int.tmod a0 20) = Int.tmod a0 20 := by generalize Int.tmod a0 20 = z at *; unfold wrap64; omega
  rw [e1, hn]
  have e2 : wrap64 (n : Int) = (n : Int) := by
    have : (n : Int) < 100 := by omega
    clear e1 hn ht
    unfold wrap64
    omega
  rw [e2]
  exact he
end Go.Proofs.Ytmlhnjonmjmhdaa.H
namespace Go.Proofs.Ytmlhnjonmjmhdaa.H
open Go.RowKit Go.Proofs.YtmlhnjonmjmhdaaW.PrintWords Go.Proofs.YtmlhnjonmjmhdaaW.PrintLast Go.Proofs.YtmlhnjonmjmhdaaW.PrintMore
attribute [local go_sem] max2_int min2_int max_two min_two max_three min_three max_four min_four
mutual
def lambrequinlaw10_GraphPaths.j0 : Nat → Bool → Int → List (IPair) → Int → Int → List Int → Bool → Option (Bool)
 | 0, _, _, _, _, _, _, _ => none
 | k + 1, x9, x10, x11, x12, x13, x14, x57 => if x57 = true then (some false) else (if (x14.length : Int) = 0 then (some x9) else (lambrequinlaw10_GraphPaths.l0 k x9 x10 x11 x12 x13 x14 1))
def lambrequinlaw10_GraphPaths.l0 : Nat → Bool → Int → List (IPair) → Int → Int → List Int → Int → Option (Bool)
 | 0, _, _, _, _, _, _, _ => none
 | k + 1, x9, x10, x11, x12, x13, x14, x16 => if x16 < (x14.length : Int) then (lambrequinlaw10_GraphPaths.l1 k x9 x10 x11 x12 x13 x14 x16 false 0) else (if x9 = true then (if 0 < (x14.length : Int) then (if (rd x14 0) = x12 then (if 0 ≤ (wrap64 ((x14.length : Int) - 1)) then (if (wrap64 ((x14.length : Int) - 1)) < (x14.length : Int) then (if (rd x14 (wrap64 ((x14.length : Int) - 1))) = x13 then ((lambrequinref10_Steps.f k x10 x11 x12).bind fun t115 => (if 0 ≤ x13 then (if x13 < (t115.length : Int) then (some ((wrap64 ((x14.length : Int) - 1)) == (rd t115 x13))) else (none)) else (none))) else (some false)) else (none)) else (none)) else (some false)) else (none)) else (some false))
def lambrequinlaw10_GraphPaths.l1 : Nat → Bool → Int → List (IPair) → Int → Int → List Int → Int → Bool → Int → Option (Bool)
 | 0, _, _, _, _, _, _, _, _, _ => none
 | k + 1, x9, x10, x11, x12, x13, x14, x16, x17, x18 => if x18 < (x11.length : Int) then (if x17 = true then (lambrequinlaw10_GraphPaths.l1 k x9 x10 x11 x12 x13 x14 x16 true (wrap64 (x18 + 1))) else (if 0 ≤ x18 then (if 0 ≤ (wrap64 (x16 - 1)) then (if (wrap64 (x16 - 1)) < (x14.length : Int) then (if ((rd_T27 x11 x18).fst) = (rd x14 (wrap64 (x16 - 1))) then (if 0 ≤ x16 then (if x16 < (x14.length : Int) then (lambrequinlaw10_GraphPaths.l1 k x9 x10 x11 x12 x13 x14 x16 (((rd_T27 x11 x18).snd) == (rd x14 x16)) (wrap64 (x18 + 1))) else (none)) else (none)) else (lambrequinlaw10_GraphPaths.l1 k x9 x10 x11 x12 x13 x14 x16 false (wrap64 (x18 + 1)))) else (none)) else (none)) else (none))) else (if x17 = true then (lambrequinlaw10_GraphPaths.l2 k x9 x10 x11 x12 x13 x14 x16 0) else (some false))
def lambrequinlaw10_GraphPaths.l2 : Nat → Bool → Int → List (IPair) → Int → Int → List Int → Int → Int → Option (Bool)
 | 0, _, _, _, _, _, _, _, _ => none
 | k + 1, x9, x10, x11, x12, x13, x14, x16, x19 => if x19 < x16 then (if 0 ≤ x16 then (if x16 < (x14.length : Int) then (if 0 ≤ x19 then (if x19 < (x14.length : Int) then (if (rd x14 x16) = (rd x14 x19) then (some false) else (lambrequinlaw10_GraphPaths.l2 k x9 x10 x11 x12 x13 x14 x16 (wrap64 (x19 + 1)))) else (none)) else (none)) else (none)) else (none)) else (lambrequinlaw10_GraphPaths.l0 k x9 x10 x11 x12 x13 x14 (wrap64 (x16 + 1)))
end
def lambrequinlaw10_GraphPaths.f (k : Nat) (a0 : Int) (l1 : List (BPair)) (a2 : Int) (a3 : Int) : Option (Bool) := (lambrequinlaw10_shown.f k).bind fun t101 => ((lambrequinlaw10_ends.f k a0 l1).bind fun bt102 => (if bt102.1 = 0 then (none) else ((graph_Path.f k bt102.1 bt102.2 (Int.tmod (wrap64 (a2)) bt102.1) (Int.tmod (wrap64 (a3)) bt102.1)).bind fun t106 => ((graph_Reach.f k bt102.1 bt102.2 (Int.tmod (wrap64 (a2)) bt102.1)).bind fun t109 => (if (t109.length : Int) = bt102.1 then (if 0 ≤ (Int.tmod (wrap64 (a3)) bt102.1) then (if (Int.tmod (wrap64 (a3)) bt102.1) < (t109.length : Int) then (lambrequinlaw10_GraphPaths.j0 k t101 bt102.1 bt102.2 (Int.tmod (wrap64 (a2)) bt102.1) (Int.tmod (wrap64 (a3)) bt102.1) t106 ((decide ((t106.length : Int) > 0)) != (rdOf false t109 (Int.tmod (wrap64 (a3)) bt102.1)))) else (none)) else (none)) else (lambrequinlaw10_GraphPaths.j0 k t101 bt102.1 bt102.2 (Int.tmod (wrap64 (a2)) bt102.1) (Int.tmod (wrap64 (a3)) bt102.1) t106 true))))))
theorem lambrequinlaw10_GraphPaths.mono_l : ∀ k, (∀ y0 y1 y2 y3 y4 y5 y6, LeO (lambrequinlaw10_GraphPaths.j0 k y0 y1 y2 y3 y4 y5 y6) (lambrequinlaw10_GraphPaths.j0 (k + 1) y0 y1 y2 y3 y4 y5 y6)) ∧ (∀ y0 y1 y2 y3 y4 y5 y6, LeO (lambrequinlaw10_GraphPaths.l0 k y0 y1 y2 y3 y4 y5 y6) (lambrequinlaw10_GraphPaths.l0 (k + 1) y0 y1 y2 y3 y4 y5 y6)) ∧ (∀ y0 y1 y2 y3 y4 y5 y6 y7 y8, LeO (lambrequinlaw10_GraphPaths.l1 k y0 y1 y2 y3 y4 y5 y6 y7 y8) (lambrequinlaw10_GraphPaths.l1 (k + 1) y0 y1 y2 y3 y4 y5 y6 y7 y8)) ∧ (∀ y0 y1 y2 y3 y4 y5 y6 y7, LeO (lambrequinlaw10_GraphPaths.l2 k y0 y1 y2 y3 y4 y5 y6 y7) (lambrequinlaw10_GraphPaths.l2 (k + 1) y0 y1 y2 y3 y4 y5 y6 y7))
 | 0 => ⟨fun _ _ _ _ _ _ _ r h => by simp [lambrequinlaw10_GraphPaths.j0] at h, fun _ _ _ _ _ _ _ r h => by simp [lambrequinlaw10_GraphPaths.l0] at h, fun _ _ _ _ _ _ _ _ _ r h => by simp [lambrequinlaw10_GraphPaths.l1] at h, fun _ _ _ _ _ _ _ _ r h => by simp [lambrequinlaw10_GraphPaths.l2] at h⟩
 | k + 1 => by
  obtain ⟨ih0, ih1, ih2, ih3⟩ := lambrequinlaw10_GraphPaths.mono_l k
  refine ⟨?_, ?_, ?_, ?_⟩
  ·intro y0 y1 y2 y3 y4 y5 y6
   unfold lambrequinlaw10_GraphPaths.j0
   repeat' first
   | (with_reducible exact ih0 _ _ _ _ _ _ _)
   | (with_reducible exact ih1 _ _ _ _ _ _ _)
   | (with_reducible exact ih2 _ _ _ _ _ _ _ _ _)
   | (with_reducible exact ih3 _ _ _ _ _ _ _ _)
   | (with_reducible exact graph_Path.mono _ _ _ _ _)
   | (with_reducible exact graph_Reach.mono _ _ _ _)
   | (with_reducible exact lambrequinlaw10_ends.mono _ _ _)
   | (with_reducible exact lambrequinlaw10_shown.mono _)
   | (with_reducible exact lambrequinref10_Steps.mono _ _ _ _)
   | (with_reducible exact LeO.refl _)
   | (with_reducible exact LeO.none _)
   | (with_reducible refine LeO.ite ?_ ?_)
   | (with_reducible refine LeO.bind ?_ (fun _ => ?_))
   | exact ih0 _ _ _ _ _ _ _
   | exact ih1 _ _ _ _ _ _ _
   | exact ih2 _ _ _ _ _ _ _ _ _
   | exact ih3 _ _ _ _ _ _ _ _
   | exact graph_Path.mono _ _ _ _ _
   | exact graph_Reach.mono _ _ _ _
   | exact lambrequinlaw10_ends.mono _ _ _
   | exact lambrequinlaw10_shown.mono _
   | exact lambrequinref10_Steps.mono _ _ _ _
   | exact LeO.none _
   | refine LeO.ite ?_ ?_
   | refine LeO.bind ?_ (fun _ => ?_)
  ·intro y0 y1 y2 y3 y4 y5 y6
   unfold lambrequinlaw10_GraphPaths.l0
   repeat' first
   | (with_reducible exact ih0 _ _ _ _ _ _ _)
   | (with_reducible exact ih1 _ _ _ _ _ _ _)
   | (with_reducible exact ih2 _ _ _ _ _ _ _ _ _)
   | (with_reducible exact ih3 _ _ _ _ _ _ _ _)
   | (with_reducible exact graph_Path.mono _ _ _ _ _)
   | (with_reducible exact graph_Reach.mono _ _ _ _)
   | (with_reducible exact lambrequinlaw10_ends.mono _ _ _)
   | (with_reducible exact lambrequinlaw10_shown.mono _)
   | (with_reducible exact lambrequinref10_Steps.mono _ _ _ _)
   | (with_reducible exact LeO.refl _)
   | (with_reducible exact LeO.none _)
   | (with_reducible refine LeO.ite ?_ ?_)
   | (with_reducible refine LeO.bind ?_ (fun _ => ?_))
   | exact ih0 _ _ _ _ _ _ _
   | exact ih1 _ _ _ _ _ _ _
   | exact ih2 _ _ _ _ _ _ _ _ _
   | exact ih3 _ _ _ _ _ _ _ _
   | exact graph_Path.mono _ _ _ _ _
   | exact graph_Reach.mono _ _ _ _
   | exact lambrequinlaw10_ends.mono _ _ _
   | exact lambrequinlaw10_shown.mono _
   | exact lambrequinref10_Steps.mono _ _ _ _
   | exact LeO.none _
   | refine LeO.ite ?_ ?_
   | refine LeO.bind ?_ (fun _ => ?_)
  ·intro y0 y1 y2 y3 y4 y5 y6 y7 y8
   unfold lambrequinlaw10_GraphPaths.l1
   repeat' first
   | (with_reducible exact ih0 _ _ _ _ _ _ _)
   | (with_reducible exact ih1 _ _ _ _ _ _ _)
   | (with_reducible exact ih2 _ _ _ _ _ _ _ _ _)
   | (with_reducible exact ih3 _ _ _ _ _ _ _ _)
   | (with_reducible exact graph_Path.mono _ _ _ _ _)
   | (with_reducible exact graph_Reach.mono _ _ _ _)
   | (with_reducible exact lambrequinlaw10_ends.mono _ _ _)
   | (with_reducible exact lambrequinlaw10_shown.mono _)
   | (with_reducible exact lambrequinref10_Steps.mono _ _ _ _)
   | (with_reducible exact LeO.refl _)
   | (with_reducible exact LeO.none _)
   | (with_reducible refine LeO.ite ?_ ?_)
   | (with_reducible refine LeO.bind ?_ (fun _ => ?_))
   | exact ih0 _ _ _ _ _ _ _
   | exact ih1 _ _ _ _ _ _ _
   | exact ih2 _ _ _ _ _ _ _ _ _
   | exact ih3 _ _ _ _ _ _ _ _
   | exact graph_Path.mono _ _ _ _ _
   | exact graph_Reach.mono _ _ _ _
   | exact lambrequinlaw10_ends.mono _ _ _
   | exact lambrequinlaw10_shown.mono _
   | exact lambrequinref10_Steps.mono _ _ _ _
   | exact LeO.none _
   | refine LeO.ite ?_ ?_
   | refine LeO.bind ?_ (fun _ => ?_)
  ·intro y0 y1 y2 y3 y4 y5 y6 y7
   unfold lambrequinlaw10_GraphPaths.l2
   repeat' first
   | (with_reducible exact ih0 _ _ _ _ _ _ _)
   | (with_reducible exact ih1 _ _ _ _ _ _ _)
   | (with_reducible exact ih2 _ _ _ _ _ _ _ _ _)
   | (with_reducible exact ih3 _ _ _ _ _ _ _ _)
   | (with_reducible exact graph_Path.mono _ _ _ _ _)
   | (with_reducible exact graph_Reach.mono _ _ _ _)
   | (with_reducible exact lambrequinlaw10_ends.mono _ _ _)
   | (with_reducible exact lambrequinlaw10_shown.mono _)
   | (with_reducible exact lambrequinref10_Steps.mono _ _ _ _)
   | (with_reducible exact LeO.refl _)
   | (with_reducible exact LeO.none _)
   | (with_reducible refine LeO.ite ?_ ?_)
   | (with_reducible refine LeO.bind ?_ (fun _ => ?_))
   | exact ih0 _ _ _ _ _ _ _
   | exact ih1 _ _ _ _ _ _ _
   | exact ih2 _ _ _ _ _ _ _ _ _
   | exact ih3 _ _ _ _ _ _ _ _
   | exact graph_Path.mono _ _ _ _ _
   | exact graph_Reach.mono _ _ _ _
   | exact lambrequinlaw10_ends.mono _ _ _
   | exact lambrequinlaw10_shown.mono _
   | exact lambrequinref10_Steps.mono _ _ _ _
   | exact LeO.none _
   | refine LeO.ite ?_ ?_
   | refine LeO.bind ?_ (fun _ => ?_)
theorem lambrequinlaw10_GraphPaths.mono : ∀ a0 a1 a2 a3 k, LeO (lambrequinlaw10_GraphPaths.f k a0 a1 a2 a3) (lambrequinlaw10_GraphPaths.f (k + 1) a0 a1 a2 a3) := by
 intro a0 a1 a2 a3 k
 obtain ⟨ih0, ih1, ih2, ih3⟩ := lambrequinlaw10_GraphPaths.mono_l k
 unfold lambrequinlaw10_GraphPaths.f
 repeat' first
   | (with_reducible exact ih0 _ _ _ _ _ _ _)
   | (with_reducible exact ih1 _ _ _ _ _ _ _)
   | (with_reducible exact ih2 _ _ _ _ _ _ _ _ _)
   | (with_reducible exact ih3 _ _ _ _ _ _ _ _)
   | (with_reducible exact graph_Path.mono _ _ _ _ _)
   | (with_reducible exact graph_Reach.mono _ _ _ _)
   | (with_reducible exact lambrequinlaw10_ends.mono _ _ _)
   | (with_reducible exact lambrequinlaw10_shown.mono _)
   | (with_reducible exact lambrequinref10_Steps.mono _ _ _ _)
   | (with_reducible exact LeO.refl _)
   | (with_reducible exact LeO.none _)
   | (with_reducible refine LeO.ite ?_ ?_)
   | (with_reducible refine LeO.bind ?_ (fun _ => ?_))
   | exact ih0 _ _ _ _ _ _ _
   | exact ih1 _ _ _ _ _ _ _
   | exact ih2 _ _ _ _ _ _ _ _ _
   | exact ih3 _ _ _ _ _ _ _ _
   | exact graph_Path.mono _ _ _ _ _
   | exact graph_Reach.mono _ _ _ _
   | exact lambrequinlaw10_ends.mono _ _ _
   | exact lambrequinlaw10_shown.mono _
   | exact lambrequinref10_Steps.mono _ _ _ _
   | exact LeO.none _
   | refine LeO.ite ?_ ?_
   | refine LeO.bind ?_ (fun _ => ?_)
set_option maxHeartbeats 8000000 in
set_option maxRecDepth 100000 in
theorem lambrequinlaw10_GraphPaths.calls (k : Nat) (a0 : Int) (A1 : Option Addr) (c1 : Nat) (l1 : List (BPair)) (a2 : Int) (a3 : Int) (r : Bool) (w : World) (hr1 : Kd.C k45 w A1 l1.length l1) (hc1 : l1.length ≤ c1) (h : lambrequinlaw10_GraphPaths.f k a0 l1 a2 a3 = some r) :
  Calls Try.prog 6 #[.int .u8 a0, .slice A1 l1.length c1, .int .u8 a2, .int .u8 a3] w fun e w' => e = .returned (.bool r) ∧ Below w.heap.size w w' := by
 have HR1 := am hr1
 have HC1 := am hc1
 clear hr1 hc1
 have HB := am (Below.refl w.heap.size w)
 have H : ((lambrequinlaw10_shown.f k).bind fun t101 => ((lambrequinlaw10_ends.f k a0 l1).bind fun bt102 => (if bt102.1 = 0 then (none) else ((graph_Path.f k bt102.1 bt102.2 (Int.tmod (wrap64 (a2)) bt102.1) (Int.tmod (wrap64 (a3)) bt102.1)).bind fun t106 => ((graph_Reach.f k bt102.1 bt102.2 (Int.tmod (wrap64 (a2)) bt102.1)).bind fun t109 => (if (t109.length : Int) = bt102.1 then (if 0 ≤ (Int.tmod (wrap64 (a3)) bt102.1) then (if (Int.tmod (wrap64 (a3)) bt102.1) < (t109.length : Int) then (lambrequinlaw10_GraphPaths.j0 k t101 bt102.1 bt102.2 (Int.tmod (wrap64 (a2)) bt102.1) (Int.tmod (wrap64 (a3)) bt102.1) t106 ((decide ((t106.length : Int) > 0)) != (rdOf false t109 (Int.tmod (wrap64 (a3)) bt102.1)))) else (none)) else (none)) else (lambrequinlaw10_GraphPaths.j0 k t101 bt102.1 bt102.2 (Int.tmod (wrap64 (a2)) bt102.1) (Int.tmod (wrap64 (a3)) bt102.1) t106 true))))))) = some r := h
 clear h
 replace H := Option.bind_eq_some_iff.mp H
 obtain ⟨t101, A50, H⟩ := H
 replace H : ((lambrequinlaw10_ends.f k a0 l1).bind fun bt102 => (if bt102.1 = 0 then (none) else ((graph_Path.f k bt102.1 bt102.2 (Int.tmod (wrap64 (a2)) bt102.1) (Int.tmod (wrap64 (a3)) bt102.1)).bind fun t106 => ((graph_Reach.f k bt102.1 bt102.2 (Int.tmod (wrap64 (a2)) bt102.1)).bind fun t109 => (if (t109.length : Int) = bt102.1 then (if 0 ≤ (Int.tmod (wrap64 (a3)) bt102.1) then (if (Int.tmod (wrap64 (a3)) bt102.1) < (t109.length : Int) then (lambrequinlaw10_GraphPaths.j0 k t101 bt102.1 bt102.2 (Int.tmod (wrap64 (a2)) bt102.1) (Int.tmod (wrap64 (a3)) bt102.1) t106 ((decide ((t106.length : Int) > 0)) != (rdOf false t109 (Int.tmod (wrap64 (a3)) bt102.1)))) else (none)) else (none)) else (lambrequinlaw10_GraphPaths.j0 k t101 bt102.1 bt102.2 (Int.tmod (wrap64 (a2)) bt102.1) (Int.tmod (wrap64 (a3)) bt102.1) t106 true)))))) = some r := H
 have A5 := am A50
 clear A50
 replace H := Option.bind_eq_some_iff.mp H
 obtain ⟨⟨t102, t103⟩, A60, H⟩ := H
 replace H : (if t102 = 0 then (none) else ((graph_Path.f k t102 t103 (Int.tmod (wrap64 (a2)) t102) (Int.tmod (wrap64 (a3)) t102)).bind fun t106 => ((graph_Reach.f k t102 t103 (Int.tmod (wrap64 (a2)) t102)).bind fun t109 => (if (t109.length : Int) = t102 then (if 0 ≤ (Int.tmod (wrap64 (a3)) t102) then (if (Int.tmod (wrap64 (a3)) t102) < (t109.length : Int) then (lambrequinlaw10_GraphPaths.j0 k t101 t102 t103 (Int.tmod (wrap64 (a2)) t102) (Int.tmod (wrap64 (a3)) t102) t106 ((decide ((t106.length : Int) > 0)) != (rdOf false t109 (Int.tmod (wrap64 (a3)) t102)))) else (none)) else (none)) else (lambrequinlaw10_GraphPaths.j0 k t101 t102 t103 (Int.tmod (wrap64 (a2)) t102) (Int.tmod (wrap64 (a3)) t102) t106 true))))) = some r := H
 have A6 := am A60
 clear A60
 by_cases c7 : t102 = 0
 ·rw [if_pos c7] at H
  exact absurd H (by simp)
 ·rw [if_neg c7] at H
  have c7b0 : (t102 == 0) = false := beq_eq_false_iff_ne.mpr c7
  have c7b1 : (t102 != 0) = true := bne_iff_ne.mpr c7
  replace H := Option.bind_eq_some_iff.mp H
  obtain ⟨t106, A80, H⟩ := H
  replace H : ((graph_Reach.f k t102 t103 (Int.tmod (wrap64 (a2)) t102)).bind fun t109 => (if (t109.length : Int) = t102 then (if 0 ≤ (Int.tmod (wrap64 (a3)) t102) then (if (Int.tmod (wrap64 (a3)) t102) < (t109.length : Int) then (lambrequinlaw10_GraphPaths.j0 k t101 t102 t103 (Int.tmod (wrap64 (a2)) t102) (Int.tmod (wrap64 (a3)) t102) t106 ((decide ((t106.length : Int) > 0)) != (rdOf false t109 (Int.tmod (wrap64 (a3)) t102)))) else (none)) else (none)) else (lambrequinlaw10_GraphPaths.j0 k t101 t102 t103 (Int.tmod (wrap64 (a2)) t102) (Int.tmod (wrap64 (a3)) t102) t106 true))) = some r := H
  have A8 := am A80
  clear A80
  replace H := Option.bind_eq_some_iff.mp H
  obtain ⟨t109, A90, H⟩ := H
  replace H : (if (t109.length : Int) = t102 then (if 0 ≤ (Int.tmod (wrap64 (a3)) t102) then (if (Int.tmod (wrap64 (a3)) t102) < (t109.length : Int) then (lambrequinlaw10_GraphPaths.j0 k t101 t102 t103 (Int.tmod (wrap64 (a2)) t102) (Int.tmod (wrap64 (a3)) t102) t106 ((decide ((t106.length : Int) > 0)) != (rdOf false t109 (Int.tmod (wrap64 (a3)) t102)))) else (none)) else (none)) else (lambrequinlaw10_GraphPaths.j0 k t101 t102 t103 (Int.tmod (wrap64 (a2)) t102) (Int.tmod (wrap64 (a3)) t102) t106 true)) = some r := H
  have A9 := am A90
  clear A90
  have HC10 := am H
  clear H
  go_enter Try.func6, Try.ntmps6
  go_upto_region 7 with (first | (go_at_call 14; (with_reducible refine (lambrequinlaw10_shown.calls k  t101 _ A5.out).mono ?_); rintro e w11 ⟨rfl, hb⟩; replace HB := am (below_step (by repeat (first | (with_reducible first | exact HB.out | apply lA | apply lN | apply lD) | exact HB.out)) hb); (try clear hb); (try clear hb2); (try clear hk); (try clear hi)) | (go_at_call 15; (with_reducible refine (lambrequinlaw10_ends.calls k a0 _ _ l1 t102 t103 _ ?side1 ?side2 A6.out).mono ?_); (case side1 => repeat (first | exact (Kd.C_below HR1.out HB.out) | (with_reducible refine Kd.C_alloc ?_ _) | (with_reducible refine Kd.C_drewN ?_ _) | (with_reducible refine Kd.C_drew ?_))); (case side2 => exact HC1.out); rintro e w12 ⟨v104, rfl, ho0, hb⟩; have HO105 := am (Kd.R_lower ho0 (below_size (by repeat (first | (with_reducible first | exact HB.out | apply lA | apply lN | apply lD) | exact HB.out)))); replace HB := am (below_step (by repeat (first | (with_reducible first | exact HB.out | apply lA | apply lN | apply lD) | exact HB.out)) hb); (try clear hb); (try clear hb2); (try clear hk); (try clear hi); (try clear ho0); obtain ⟨Ao13, co13, eo13⟩ := Kd.R_slice HO105.out; subst eo13) | (go_at_call 20; (with_reducible refine (graph_Path.calls k t102 _ _ t103 (Int.tmod (wrap64 (a2)) t102) (Int.tmod (wrap64 (a3)) t102) t106 _ ?side1 ?side2 A8.out).mono ?_); (case side1 => repeat (first | exact (Kd.R_reads' HO105.out).2.2 | (with_reducible refine Kd.C_alloc ?_ _) | (with_reducible refine Kd.C_drewN ?_ _) | (with_reducible refine Kd.C_drew ?_))); (case side2 => exact (Kd.R_reads' HO105.out).2.1); rintro e w14 ⟨v107, rfl, ho0, hb⟩; replace HO105 := am (Kd.R_below (by (with_reducible repeat (first | apply Ra | apply Rn | apply Rd)); exact HO105.out) hb); have HO108 := am (Kd.R_lower ho0 (below_size (by repeat (first | (with_reducible first | exact HB.out | apply lA | apply lN | apply lD) | exact HB.out)))); replace HB := am (below_step (by repeat (first | (with_reducible first | exact HB.out | apply lA | apply lN | apply lD) | exact HB.out)) hb); (try clear hb); (try clear hb2); (try clear hk); (try clear hi); (try clear ho0)) | (go_at_call 22; (with_reducible refine (graph_Reach.calls k t102 _ _ t103 (Int.tmod (wrap64 (a2)) t102) t109 _ ?side1 ?side2 A9.out).mono ?_); (case side1 => repeat (first | exact (Kd.R_reads' HO105.out).2.2 | (with_reducible refine Kd.C_alloc ?_ _) | (with_reducible refine Kd.C_drewN ?_ _) | (with_reducible refine Kd.C_drew ?_))); (case side2 => exact (Kd.R_reads' HO105.out).2.1); rintro e w15 ⟨v110, rfl, ho0, hb⟩; replace HO105 := am (Kd.R_below (by (with_reducible repeat (first | apply Ra | apply Rn | apply Rd)); exact HO105.out) hb); replace HO108 := am (Kd.R_below (by (with_reducible repeat (first | apply Ra | apply Rn | apply Rd)); exact HO108.out) hb); have HO111 := am (Kd.R_lower ho0 (below_size (by repeat (first | (with_reducible first | exact HB.out | apply lA | apply lN | apply lD) | exact HB.out)))); replace HB := am (below_step (by repeat (first | (with_reducible first | exact HB.out | apply lA | apply lN | apply lD) | exact HB.out)) hb); (try clear hb); (try clear hb2); (try clear hk); (try clear hi); (try clear ho0)))
  repeat (go_quiet (first | (go_at_call 14; (with_reducible refine (lambrequinlaw10_shown.calls k  t101 _ A5.out).mono ?_); rintro e w11 ⟨rfl, hb⟩; replace HB := am (below_step (by repeat (first | (with_reducible first | exact HB.out | apply lA | apply lN | apply lD) | exact HB.out)) hb); (try clear hb); (try clear hb2); (try clear hk); (try clear hi)) | (go_at_call 15; (with_reducible refine (lambrequinlaw10_ends.calls k a0 _ _ l1 t102 t103 _ ?side1 ?side2 A6.out).mono ?_); (case side1 => repeat (first | exact (Kd.C_below HR1.out HB.out) | (with_reducible refine Kd.C_alloc ?_ _) | (with_reducible refine Kd.C_drewN ?_ _) | (with_reducible refine Kd.C_drew ?_))); (case side2 => exact HC1.out); rintro e w12 ⟨v104, rfl, ho0, hb⟩; have HO105 := am (Kd.R_lower ho0 (below_size (by repeat (first | (with_reducible first | exact HB.out | apply lA | apply lN | apply lD) | exact HB.out)))); replace HB := am (below_step (by repeat (first | (with_reducible first | exact HB.out | apply lA | apply lN | apply lD) | exact HB.out)) hb); (try clear hb); (try clear hb2); (try clear hk); (try clear hi); (try clear ho0); obtain ⟨Ao13, co13, eo13⟩ := Kd.R_slice HO105.out; subst eo13) | (go_at_call 20; (with_reducible refine (graph_Path.calls k t102 _ _ t103 (Int.tmod (wrap64 (a2)) t102) (Int.tmod (wrap64 (a3)) t102) t106 _ ?side1 ?side2 A8.out).mono ?_); (case side1 => repeat (first | exact (Kd.R_reads' HO105.out).2.2 | (with_reducible refine Kd.C_alloc ?_ _) | (with_reducible refine Kd.C_drewN ?_ _) | (with_reducible refine Kd.C_drew ?_))); (case side2 => exact (Kd.R_reads' HO105.out).2.1); rintro e w14 ⟨v107, rfl, ho0, hb⟩; replace HO105 := am (Kd.R_below (by (with_reducible repeat (first | apply Ra | apply Rn | apply Rd)); exact HO105.out) hb); have HO108 := am (Kd.R_lower ho0 (below_size (by repeat (first | (with_reducible first | exact HB.out | apply lA | apply lN | apply lD) | exact HB.out)))); replace HB := am (below_step (by repeat (first | (with_reducible first | exact HB.out | apply lA | apply lN | apply lD) | exact HB.out)) hb); (try clear hb); (try clear hb2); (try clear hk); (try clear hi); (try clear ho0)) | (go_at_call 22; (with_reducible refine (graph_Reach.calls k t102 _ _ t103 (Int.tmod (wrap64 (a2)) t102) t109 _ ?side1 ?side2 A9.out).mono ?_); (case side1 => repeat (first | exact (Kd.R_reads' HO105.out).2.2 | (with_reducible refine Kd.C_alloc ?_ _) | (with_reducible refine Kd.C_drewN ?_ _) | (with_reducible refine Kd.C_drew ?_))); (case side2 => exact (Kd.R_reads' HO105.out).2.1); rintro e w15 ⟨v110, rfl, ho0, hb⟩; replace HO105 := am (Kd.R_below (by (with_reducible repeat (first | apply Ra | apply Rn | apply Rd)); exact HO105.out) hb); replace HO108 := am (Kd.R_below (by (with_reducible repeat (first | apply Ra | apply Rn | apply Rd)); exact HO108.out) hb); have HO111 := am (Kd.R_lower ho0 (below_size (by repeat (first | (with_reducible first | exact HB.out | apply lA | apply lN | apply lD) | exact HB.out)))); replace HB := am (below_step (by repeat (first | (with_reducible first | exact HB.out | apply lA | apply lN | apply lD) | exact HB.out)) hb); (try clear hb); (try clear hb2); (try clear hk); (try clear hi); (try clear ho0))); go_upto_region 7 with (first | (go_at_call 14; (with_reducible refine (lambrequinlaw10_shown.calls k  t101 _ A5.out).mono ?_); rintro e w11 ⟨rfl, hb⟩; replace HB := am (below_step (by repeat (first | (with_reducible first | exact HB.out | apply lA | apply lN | apply lD) | exact HB.out)) hb); (try clear hb); (try clear hb2); (try clear hk); (try clear hi)) | (go_at_call 15; (with_reducible refine (lambrequinlaw10_ends.calls k a0 _ _ l1 t102 t103 _ ?side1 ?side2 A6.out).mono ?_); (case side1 => repeat (first | exact (Kd.C_below HR1.out HB.out) | (with_reducible refine Kd.C_alloc ?_ _) | (with_reducible refine Kd.C_drewN ?_ _) | (with_reducible refine Kd.C_drew ?_))); (case side2 => exact HC1.out); rintro e w12 ⟨v104, rfl, ho0, hb⟩; have HO105 := am (Kd.R_lower ho0 (below_size (by repeat (first | (with_reducible first | exact HB.out | apply lA | apply lN | apply lD) | exact HB.out)))); replace HB := am (below_step (by repeat (first | (with_reducible first | exact HB.out | apply lA | apply lN | apply lD) | exact HB.out)) hb); (try clear hb); (try clear hb2); (try clear hk); (try clear hi); (try clear ho0); obtain ⟨Ao13, co13, eo13⟩ := Kd.R_slice HO105.out; subst eo13) | (go_at_call 20; (with_reducible refine (graph_Path.calls k t102 _ _ t103 (Int.tmod (wrap64 (a2)) t102) (Int.tmod (wrap64 (a3)) t102) t106 _ ?side1 ?side2 A8.out).mono ?_); (case side1 => repeat (first | exact (Kd.R_reads' HO105.out).2.2 | (with_reducible refine Kd.C_alloc ?_ _) | (with_reducible refine Kd.C_drewN ?_ _) | (with_reducible refine Kd.C_drew ?_))); (case side2 => exact (Kd.R_reads' HO105.out).2.1); rintro e w14 ⟨v107, rfl, ho0, hb⟩; replace HO105 := am (Kd.R_below (by (with_reducible repeat (first | apply Ra | apply Rn | apply Rd)); exact HO105.out) hb); have HO108 := am (Kd.R_lower ho0 (below_size (by repeat (first | (with_reducible first | exact HB.out | apply lA | apply lN | apply lD) | exact HB.out)))); replace HB := am (below_step (by repeat (first | (with_reducible first | exact HB.out | apply lA | apply lN | apply lD) | exact HB.out)) hb); (try clear hb); (try clear hb2); (try clear hk); (try clear hi); (try clear ho0)) | (go_at_call 22; (with_reducible refine (graph_Reach.calls k t102 _ _ t103 (Int.tmod (wrap64 (a2)) t102) t109 _ ?side1 ?side2 A9.out).mono ?_); (case side1 => repeat (first | exact (Kd.R_reads' HO105.out).2.2 | (with_reducible refine Kd.C_alloc ?_ _) | (with_reducible refine Kd.C_drewN ?_ _) | (with_reducible refine Kd.C_drew ?_))); (case side2 => exact (Kd.R_reads' HO105.out).2.1); rintro e w15 ⟨v110, rfl, ho0, hb⟩; replace HO105 := am (Kd.R_below (by (with_reducible repeat (first | apply Ra | apply Rn | apply Rd)); exact HO105.out) hb); replace HO108 := am (Kd.R_below (by (with_reducible repeat (first | apply Ra | apply Rn | apply Rd)); exact HO108.out) hb); have HO111 := am (Kd.R_lower ho0 (below_size (by repeat (first | (with_reducible first | exact HB.out | apply lA | apply lN | apply lD) | exact HB.out)))); replace HB := am (below_step (by repeat (first | (with_reducible first | exact HB.out | apply lA | apply lN | apply lD) | exact HB.out)) hb); (try clear hb); (try clear hb2); (try clear hk); (try clear hi); (try clear ho0))))
  (try simp only [Act.put, List.setIfInBounds_toArray, List.set_cons_zero, List.set_cons_succ])
  go_cut [57] (fun v57 wc => ∃ (kq : Nat) (x57_9 : Bool), v57 = .bool x57_9 ∧ Aside0 (lambrequinlaw10_GraphPaths.j0 kq t101 t102 t103 (Int.tmod (wrap64 (a2)) t102) (Int.tmod (wrap64 (a3)) t102) t106 x57_9 = some r) ∧ Aside0 (kq ≤ k) ∧ Aside0 (Kd.R k27 27 wc w.heap.size (fun _ => True) (.slice Ao13 t103.length co13) t103) ∧ Aside0 (Kd.R (Kd.int .i64) 3 wc w.heap.size (fun _ => True) v107 t106) ∧ Aside0 (Below w.heap.size w wc))
  case first =>
   have H := HC10.out
   clear HC10
   by_cases c16 : (t109.length : Int) = t102
   ·rw [if_pos c16] at H
    have c16b0 : ((t109.length : Int) == t102) = true := beq_iff_eq.mpr c16
    have c16b1 : ((t109.length : Int) != t102) = false := bne_eq_false_iff_eq.mpr c16
    clear c16
    (first | rw [c16b0] | (simp only [i64_w, i32_w]; rw [c16b0]) | skip)
    obtain ⟨ji17, hji17⟩ : ∃ j_ : Int, (Int.tmod (wrap64 (a3)) t102) = j_ := ⟨_, rfl⟩
    replace H : (if 0 ≤ (ji17) then (if (ji17) < (t109.length : Int) then (lambrequinlaw10_GraphPaths.j0 k t101 t102 t103 (Int.tmod (wrap64 (a2)) t102) ji17 t106 ((decide ((t106.length : Int) > 0)) != (rdOf false t109 (ji17)))) else (none)) else (none)) = some r := by first | (rw [hji17] at H; exact H) | (simp only [hji17] at H ⊢; exact H)
    by_cases c18 : 0 ≤ (ji17)
    ·rw [if_pos c18] at H
     have c18b0 : decide (0 ≤ (ji17)) = true := decide_eq_true c18
     clear c18
     by_cases c19 : (ji17) < (t109.length : Int)
     ·rw [if_pos c19] at H
      have c19b0 : decide ((ji17) < (t109.length : Int)) = true := decide_eq_true c19
      clear c19
      have H' := am H
      clear H
      obtain ⟨Ao20, co20, eo20⟩ := Kd.R_slice HO111.out
      subst eo20
      obtain ⟨Ao21, co21, eo21⟩ := Kd.R_slice HO108.out
      subst eo21
      have p112 : 0 ≤ ((ji17) : Int) := of_decide_eq_true (by first | (with_reducible assumption) | assumption)
      have q112 : (ji17) < (t109.length : Int) := of_decide_eq_true (by first | (with_reducible assumption) | assumption)
      obtain ⟨ad112, e112, hx112_0⟩ := Kd.at_bool (Kd.R_reads' HO111.out).2.2 (ji17) p112 q112
      cases e112
      replace p112 := eq_true p112
      replace q112 := eq_true q112
      go_wp2
      repeat (go_quiet (fail); try go_wp2)
      try subst hji17
      go_meet
      case rel => (try subst hji17); exact ⟨_, (((decide ((t106.length : Int) > 0)) != (rdOf false t109 ((Int.tmod (wrap64 (a3)) t102))))), (by first | rfl | (simp; done) | (simp only [← hji17] <;> (first | rfl | simp)) | (simp [*]; done) | (generalize rdOf false _ _ = z_; cases z_ <;> simp [bne])), H', ⟨by first | omega | exact Nat.le_refl _⟩, ⟨by (with_reducible repeat (first | apply Ra | apply Rn | apply Rd)); exact HO105.out⟩, ⟨by (with_reducible repeat (first | apply Ra | apply Rn | apply Rd)); exact HO108.out⟩, ⟨by repeat (first | (with_reducible first | exact HB.out | apply lA | apply lN | apply lD) | exact HB.out)⟩⟩
     ·rw [if_neg c19] at H
      exact absurd H (by simp)
    ·rw [if_neg c18] at H
     exact absurd H (by simp)
   ·rw [if_neg c16] at H
    have c16b0 : ((t109.length : Int) == t102) = false := beq_eq_false_iff_ne.mpr c16
    have c16b1 : ((t109.length : Int) != t102) = true := bne_iff_ne.mpr c16
    (first | rw [c16b0] | (simp only [i64_w, i32_w]; rw [c16b0]) | skip)
    have H' := am H
    clear H
    obtain ⟨Ao22, co22, eo22⟩ := Kd.R_slice HO111.out
    subst eo22
    go_wp2
    repeat (go_quiet (fail); try go_wp2)
    go_meet
    case rel => exact ⟨_, (true), (by first | rfl | (simp; done) | (simp [*]; done)), H', ⟨by first | omega | exact Nat.le_refl _⟩, ⟨by (with_reducible repeat (first | apply Ra | apply Rn | apply Rd)); exact HO105.out⟩, ⟨by (with_reducible repeat (first | apply Ra | apply Rn | apply Rd)); exact HO108.out⟩, ⟨by repeat (first | (with_reducible first | exact HB.out | apply lA | apply lN | apply lD) | exact HB.out)⟩⟩
  case rest =>
   clear HC10
   try clear c1
   try clear p1
   try clear q1
   try clear hx1
   try clear p2
   try clear c6
   try clear p6
   try clear c7
   try clear c7b0
   try clear c7b1
   try clear p11
   try clear q11
   try clear hx11
   try clear c16
   try clear c16b0
   try clear c16b1
   try clear c18
   try clear c18b0
   try clear c19
   try clear c19b0
   try clear hx112_0
   try clear p112
   try clear q112
   obtain ⟨kq, x57_9, rfl, HA, HJ9, HO_11, HO_14, HB⟩ := hcut
   cases kq with
   | zero => exact absurd HA.out (by simp [lambrequinlaw10_GraphPaths.j0])
   | succ kj9 =>
    have H := HA.out
    clear HA
    simp only [lambrequinlaw10_GraphPaths.j0] at H
    by_cases c23 : x57_9 = true
    ·subst c23
     have H1 : (some false) = some r := by rw [if_pos rfl] at H; exact H
     clear H
     have H := H1
     clear H1
     obtain rfl := Option.some.inj H
     go_wp2
     repeat (go_quiet (fail); try go_wp2)
     go_ret
     exact ⟨by first | rfl | (simp [errW_none, errW_some] <;> rfl) | (simp [*, errW_none, errW_some] <;> rfl), by repeat (first | (with_reducible first | exact HB.out | apply lA | apply lN | apply lD) | exact HB.out)⟩
    ·replace c23 := Bool.eq_false_iff.mpr c23
     subst c23
     have H1 : (if (t106.length : Int) = 0 then (some t101) else (lambrequinlaw10_GraphPaths.l0 kj9 t101 t102 t103 (Int.tmod (wrap64 (a2)) t102) (Int.tmod (wrap64 (a3)) t102) t106 1)) = some r := by rw [if_neg (show ¬ (false = true) by decide)] at H; exact H
     clear H
     have H := H1
     clear H1
     by_cases c24 : (t106.length : Int) = 0
     ·rw [if_pos c24] at H
      have c24b0 : ((t106.length : Int) == 0) = true := beq_iff_eq.mpr c24
      have c24b1 : ((t106.length : Int) != 0) = false := bne_eq_false_iff_eq.mpr c24
      clear c24
      obtain rfl := Option.some.inj H
      obtain ⟨Ao25, co25, eo25⟩ := Kd.R_slice HO_14.out
      subst eo25
      go_wp2
      repeat (go_quiet (fail); try go_wp2)
      go_ret
      exact ⟨by first | rfl | (simp [errW_none, errW_some] <;> rfl) | (simp [*, errW_none, errW_some] <;> rfl), by repeat (first | (with_reducible first | exact HB.out | apply lA | apply lN | apply lD) | exact HB.out)⟩
     ·rw [if_neg c24] at H
      have c24b0 : ((t106.length : Int) == 0) = false := beq_eq_false_iff_ne.mpr c24
      have c24b1 : ((t106.length : Int) != 0) = true := bne_iff_ne.mpr c24
      have c24b2 : ¬ (t106 = []) := fun h_ => c24 (by rw [h_]; rfl)
      have H' := am H
      clear H
      obtain ⟨Ao26, co26, eo26⟩ := Kd.R_slice HO_14.out
      subst eo26
      go_wp2
      repeat (go_quiet (fail); try go_wp2)
      go_loopg [16] kj9 (fun kq v16 w' => ∃ (x16_2 : Int), v16 = .int .i64 x16_2 ∧ Aside0 (lambrequinlaw10_GraphPaths.l0 kq t101 t102 t103 (Int.tmod (wrap64 (a2)) t102) (Int.tmod (wrap64 (a3)) t102) t106 x16_2 = some r) ∧ Aside0 (kq ≤ kj9) ∧ Aside0 (Kd.R k27 27 w' w.heap.size (fun _ => True) (.slice Ao13 t103.length co13) t103) ∧ Aside0 (Kd.R (Kd.int .i64) 3 w' w.heap.size (fun _ => True) (.slice Ao26 t106.length co26) t106) ∧ Aside0 (Below w.heap.size w w'))
      case atStart => exact ⟨(1), (by first | rfl | (simp; done) | (simp [*]; done)), H', ⟨Nat.le_refl _⟩, ⟨by (with_reducible repeat (first | apply Ra | apply Rn | apply Rd)); exact HO_11.out⟩, ⟨by (with_reducible repeat (first | apply Ra | apply Rn | apply Rd)); exact HO_14.out⟩, ⟨by repeat (first | (with_reducible first | exact HB.out | apply lA | apply lN | apply lD) | exact HB.out)⟩⟩
      case round =>
       clear H'
       try clear c1
       try clear p1
       try clear q1
       try clear hx1
       try clear c2
       try clear p2
       try clear c6
       try clear p6
       try clear c7
       try clear c7b0
       try clear c7b1
       try clear p11
       try clear q11
       try clear hx11
       try clear c16
       try clear c16b0
       try clear c16b1
       try clear c18
       try clear c18b0
       try clear c19
       try clear c19b0
       try clear c23
       try clear c24
       try clear c24b0
       try clear c24b1
       try clear c24b2
       try clear hx112_0
       try clear p1
       try clear p11
       try clear p112
       try clear p2
       try clear p6
       try clear q1
       try clear q11
       try clear q112
       obtain ⟨x16_2, rfl, HA, HK2, HO_11, HO_14, HB⟩ := hrel
       cases gk with
       | zero => exact absurd HA.out (by simp [lambrequinlaw10_GraphPaths.l0])
       | succ k2 =>
        have H := HA.out
        clear HA
        simp only [lambrequinlaw10_GraphPaths.l0] at H
        by_cases c27 : x16_2 < (t106.length : Int)
        ·rw [if_pos c27] at H
         have c27b0 : decide (x16_2 < (t106.length : Int)) = true := decide_eq_true c27
         clear c27
         have H' := am H
         clear H
         go_wp2
         repeat (go_quiet (fail); try go_wp2)
         go_loopg [17, 18] k2 (fun kq v17 v18 w' => ∃ (x17_3 : Bool) (x18_3 : Int), v17 = .bool x17_3 ∧ v18 = .int .i64 x18_3 ∧ Aside0 (lambrequinlaw10_GraphPaths.l1 kq t101 t102 t103 (Int.tmod (wrap64 (a2)) t102) (Int.tmod (wrap64 (a3)) t102) t106 x16_2 x17_3 x18_3 = some r) ∧ Aside0 (kq ≤ k2) ∧ Aside0 (Kd.R k27 27 w' w.heap.size (fun _ => True) (.slice Ao13 t103.length co13) t103) ∧ Aside0 (Kd.R (Kd.int .i64) 3 w' w.heap.size (fun _ => True) (.slice Ao26 t106.length co26) t106) ∧ Aside0 (Below w.heap.size w w'))
         case atStart => exact ⟨(false), (0), (by first | rfl | (simp; done) | (simp [*]; done)), (by first | rfl | (simp; done) | (simp [*]; done)), H', ⟨Nat.le_refl _⟩, ⟨by (with_reducible repeat (first | apply Ra | apply Rn | apply Rd)); exact HO_11.out⟩, ⟨by (with_reducible repeat (first | apply Ra | apply Rn | apply Rd)); exact HO_14.out⟩, ⟨by repeat (first | (with_reducible first | exact HB.out | apply lA | apply lN | apply lD) | exact HB.out)⟩⟩
         case round =>
          clear H'
          try clear c1
          try clear p1
          try clear q1
          try clear hx1
          try clear c2
          try clear p2
          try clear c6
          try clear p6
          try clear c7
          try clear c7b0
          try clear c7b1
          try clear p11
          try clear q11
          try clear hx11
          try clear c16
          try clear c16b0
          try clear c16b1
          try clear c18
          try clear c18b0
          try clear c19
          try clear c19b0
          try clear c23
          try clear c24
          try clear c24b0
          try clear c24b1
          try clear c24b2
          try clear c27
          try clear c27b0
          try clear hx112_0
          try clear p1
          try clear p11
          try clear p112
          try clear p2
          try clear p6
          try clear q1
          try clear q11
          try clear q112
          obtain ⟨x17_3, x18_3, rfl, rfl, HA, HK3, HO_11, HO_14, HB⟩ := hrel
          cases gk with
          | zero => exact absurd HA.out (by simp [lambrequinlaw10_GraphPaths.l1])
          | succ k3 =>
           have H := HA.out
           clear HA
           simp only [lambrequinlaw10_GraphPaths.l1] at H
           by_cases c28 : x18_3 < (t103.length : Int)
           ·rw [if_pos c28] at H
            have c28b0 : decide (x18_3 < (t103.length : Int)) = true := decide_eq_true c28
            clear c28
            by_cases c29 : x17_3 = true
            ·subst c29
             have H1 : (lambrequinlaw10_GraphPaths.l1 k3 t101 t102 t103 (Int.tmod (wrap64 (a2)) t102) (Int.tmod (wrap64 (a3)) t102) t106 x16_2 true (wrap64 (x18_3 + 1))) = some r := by rw [if_pos rfl] at H; exact H
             clear H
             have H := H1
             clear H1
             have H' := am H
             clear H
             go_wp2
             repeat (go_quiet (fail); try go_wp2)
             go_roundg k3
             case measure => have := HJ9.out; have := HK2.out; have := HK3.out; omega
             case rel => exact ⟨(true), (wrap64 (x18_3 + 1)), (by first | rfl | (simp; done) | (simp [*]; done)), (by first | rfl | (simp; done) | (simp [*]; done)), H', ⟨by have := HJ9.out; have := HK2.out; have := HK3.out; omega⟩, ⟨by (with_reducible repeat (first | apply Ra | apply Rn | apply Rd)); exact HO_11.out⟩, ⟨by (with_reducible repeat (first | apply Ra | apply Rn | apply Rd)); exact HO_14.out⟩, ⟨by repeat (first | (with_reducible first | exact HB.out | apply lA | apply lN | apply lD) | exact HB.out)⟩⟩
            ·replace c29 := Bool.eq_false_iff.mpr c29
             subst c29
             have H1 : (if 0 ≤ x18_3 then (if 0 ≤ (wrap64 (x16_2 - 1)) then (if (wrap64 (x16_2 - 1)) < (t106.length : Int) then (if ((rd_T27 t103 x18_3).fst) = (rd t106 (wrap64 (x16_2 - 1))) then (if 0 ≤ x16_2 then (if x16_2 < (t106.length : Int) then (lambrequinlaw10_GraphPaths.l1 k3 t101 t102 t103 (Int.tmod (wrap64 (a2)) t102) (Int.tmod (wrap64 (a3)) t102) t106 x16_2 (((rd_T27 t103 x18_3).snd) == (rd t106 x16_2)) (wrap64 (x18_3 + 1))) else (none)) else (none)) else (lambrequinlaw10_GraphPaths.l1 k3 t101 t102 t103 (Int.tmod (wrap64 (a2)) t102) (Int.tmod (wrap64 (a3)) t102) t106 x16_2 false (wrap64 (x18_3 + 1)))) else (none)) else (none)) else (none)) = some r := by rw [if_neg (show ¬ (false = true) by decide)] at H; exact H
             clear H
             have H := H1
             clear H1
             by_cases c30 : 0 ≤ x18_3
             ·rw [if_pos c30] at H
              have c30b0 : decide (0 ≤ x18_3) = true := decide_eq_true c30
              clear c30
              obtain ⟨ji31, hji31⟩ : ∃ j_ : Int, (wrap64 (x16_2 - 1)) = j_ := ⟨_, rfl⟩
              replace H : (if 0 ≤ (ji31) then (if (ji31) < (t106.length : Int) then (if ((rd_T27 t103 x18_3).fst) = (rd t106 (ji31)) then (if 0 ≤ x16_2 then (if x16_2 < (t106.length : Int) then (lambrequinlaw10_GraphPaths.l1 k3 t101 t102 t103 (Int.tmod (wrap64 (a2)) t102) (Int.tmod (wrap64 (a3)) t102) t106 x16_2 (((rd_T27 t103 x18_3).snd) == (rd t106 x16_2)) (wrap64 (x18_3 + 1))) else (none)) else (none)) else (lambrequinlaw10_GraphPaths.l1 k3 t101 t102 t103 (Int.tmod (wrap64 (a2)) t102) (Int.tmod (wrap64 (a3)) t102) t106 x16_2 false (wrap64 (x18_3 + 1)))) else (none)) else (none)) = some r := by first | (rw [hji31] at H; exact H) | (simp only [hji31] at H ⊢; exact H)
              have hji31w : (IntKind.i64.wrap (x16_2 - 1)) = ji31 := (i64_w _).trans hji31
              by_cases c32 : 0 ≤ (ji31)
              ·rw [if_pos c32] at H
               have c32b0 : decide (0 ≤ (ji31)) = true := decide_eq_true c32
               clear c32
               by_cases c33 : (ji31) < (t106.length : Int)
               ·rw [if_pos c33] at H
                have c33b0 : decide ((ji31) < (t106.length : Int)) = true := decide_eq_true c33
                clear c33
                by_cases c34 : ((rd_T27 t103 x18_3).fst) = (rd t106 (ji31))
                ·rw [if_pos c34] at H
                 have c34b0 : (((rd_T27 t103 x18_3).fst) == (rd t106 (ji31))) = true := beq_iff_eq.mpr c34
                 have c34b1 : (((rd_T27 t103 x18_3).fst) != (rd t106 (ji31))) = false := bne_eq_false_iff_eq.mpr c34
                 clear c34
                 by_cases c35 : 0 ≤ x16_2
                 ·rw [if_pos c35] at H
                  have c35b0 : decide (0 ≤ x16_2) = true := decide_eq_true c35
                  clear c35
                  by_cases c36 : x16_2 < (t106.length : Int)
                  ·rw [if_pos c36] at H
                   have c36b0 : decide (x16_2 < (t106.length : Int)) = true := decide_eq_true c36
                   clear c36
                   have H' := am H
                   clear H
                   have p119 : 0 ≤ (x18_3 : Int) := of_decide_eq_true (by first | (with_reducible assumption) | assumption)
                   have q119 : x18_3 < (t103.length : Int) := of_decide_eq_true (by first | (with_reducible assumption) | assumption)
                   obtain ⟨ad119, e119, hx119_0, hx119_1⟩ := at_T27 (Kd.R_reads' HO_11.out).2.2 x18_3 p119 q119
                   cases e119
                   replace p119 := eq_true p119
                   replace q119 := eq_true q119
                   have p120 : 0 ≤ ((ji31) : Int) := of_decide_eq_true (by first | (with_reducible assumption) | assumption)
                   have q120 : (ji31) < (t106.length : Int) := of_decide_eq_true (by first | (with_reducible assumption) | assumption)
                   obtain ⟨ad120, e120, hx120_0⟩ := Kd.at_int (Kd.R_reads' HO_14.out).2.2 (ji31) p120 q120
                   cases e120
                   replace p120 := eq_true p120
                   replace q120 := eq_true q120
                   have p121 : 0 ≤ (x18_3 : Int) := of_decide_eq_true (by first | (with_reducible assumption) | assumption)
                   have q121 : x18_3 < (t103.length : Int) := of_decide_eq_true (by first | (with_reducible assumption) | assumption)
                   obtain ⟨ad121, e121, hx121_0, hx121_1⟩ := at_T27 (Kd.R_reads' HO_11.out).2.2 x18_3 p121 q121
                   obtain rfl : ad119 = ad121 := (by injection e121)
                   replace p121 := eq_true p121
                   replace q121 := eq_true q121
                   have p122 : 0 ≤ (x16_2 : Int) := of_decide_eq_true (by first | (with_reducible assumption) | assumption)
                   have q122 : x16_2 < (t106.length : Int) := of_decide_eq_true (by first | (with_reducible assumption) | assumption)
                   obtain ⟨ad122, e122, hx122_0⟩ := Kd.at_int (Kd.R_reads' HO_14.out).2.2 x16_2 p122 q122
                   obtain rfl : ad120 = ad122 := (by injection e122)
                   replace p122 := eq_true p122
                   replace q122 := eq_true q122
                   go_wp2
                   repeat (go_quiet (fail); try go_wp2)
                   go_roundg k3
                   case measure => have := HJ9.out; have := HK2.out; have := HK3.out; omega
                   case rel => exact ⟨((((rd_T27 t103 x18_3).snd) == (rd t106 x16_2))), (wrap64 (x18_3 + 1)), (by first | rfl | (simp; done) | (simp [*]; done)), (by first | rfl | (simp; done) | (simp [*]; done)), H', ⟨by have := HJ9.out; have := HK2.out; have := HK3.out; omega⟩, ⟨by (with_reducible repeat (first | apply Ra | apply Rn | apply Rd)); exact HO_11.out⟩, ⟨by (with_reducible repeat (first | apply Ra | apply Rn | apply Rd)); exact HO_14.out⟩, ⟨by repeat (first | (with_reducible first | exact HB.out | apply lA | apply lN | apply lD) | exact HB.out)⟩⟩
                  ·rw [if_neg c36] at H
                   exact absurd H (by simp)
                 ·rw [if_neg c35] at H
                  exact absurd H (by simp)
                ·rw [if_neg c34] at H
                 have c34b0 : (((rd_T27 t103 x18_3).fst) == (rd t106 (ji31))) = false := beq_eq_false_iff_ne.mpr c34
                 have c34b1 : (((rd_T27 t103 x18_3).fst) != (rd t106 (ji31))) = true := bne_iff_ne.mpr c34
                 have H' := am H
                 clear H
                 have p119 : 0 ≤ (x18_3 : Int) := of_decide_eq_true (by first | (with_reducible assumption) | assumption)
                 have q119 : x18_3 < (t103.length : Int) := of_decide_eq_true (by first | (with_reducible assumption) | assumption)
                 obtain ⟨ad119, e119, hx119_0, hx119_1⟩ := at_T27 (Kd.R_reads' HO_11.out).2.2 x18_3 p119 q119
                 cases e119
                 replace p119 := eq_true p119
                 replace q119 := eq_true q119
                 have p120 : 0 ≤ ((ji31) : Int) := of_decide_eq_true (by first | (with_reducible assumption) | assumption)
                 have q120 : (ji31) < (t106.length : Int) := of_decide_eq_true (by first | (with_reducible assumption) | assumption)
                 obtain ⟨ad120, e120, hx120_0⟩ := Kd.at_int (Kd.R_reads' HO_14.out).2.2 (ji31) p120 q120
                 cases e120
                 replace p120 := eq_true p120
                 replace q120 := eq_true q120
                 go_wp2
                 repeat (go_quiet (fail); try go_wp2)
                 go_roundg k3
                 case measure => have := HJ9.out; have := HK2.out; have := HK3.out; omega
                 case rel => exact ⟨(false), (wrap64 (x18_3 + 1)), (by first | rfl | (simp; done) | (simp [*]; done)), (by first | rfl | (simp; done) | (simp [*]; done)), H', ⟨by have := HJ9.out; have := HK2.out; have := HK3.out; omega⟩, ⟨by (with_reducible repeat (first | apply Ra | apply Rn | apply Rd)); exact HO_11.out⟩, ⟨by (with_reducible repeat (first | apply Ra | apply Rn | apply Rd)); exact HO_14.out⟩, ⟨by repeat (first | (with_reducible first | exact HB.out | apply lA | apply lN | apply lD) | exact HB.out)⟩⟩
               ·rw [if_neg c33] at H
                exact absurd H (by simp)
              ·rw [if_neg c32] at H
               exact absurd H (by simp)
             ·rw [if_neg c30] at H
              exact absurd H (by simp)
           ·rw [if_neg c28] at H
            have c28b0 : decide (x18_3 < (t103.length : Int)) = false := decide_eq_false c28
            clear c28
            by_cases c37 : x17_3 = true
            ·subst c37
             have H1 : (lambrequinlaw10_GraphPaths.l2 k3 t101 t102 t103 (Int.tmod (wrap64 (a2)) t102) (Int.tmod (wrap64 (a3)) t102) t106 x16_2 0) = some r := by rw [if_pos rfl] at H; exact H
             clear H
             have H := H1
             clear H1
             have H' := am H
             clear H
             go_wp2
             repeat (go_quiet (fail); try go_wp2)
             go_loopg [19] k3 (fun kq v19 w' => ∃ (x19_4 : Int), v19 = .int .i64 x19_4 ∧ Aside0 (lambrequinlaw10_GraphPaths.l2 kq t101 t102 t103 (Int.tmod (wrap64 (a2)) t102) (Int.tmod (wrap64 (a3)) t102) t106 x16_2 x19_4 = some r) ∧ Aside0 (kq ≤ k3) ∧ Aside0 (Kd.R k27 27 w' w.heap.size (fun _ => True) (.slice Ao13 t103.length co13) t103) ∧ Aside0 (Kd.R (Kd.int .i64) 3 w' w.heap.size (fun _ => True) (.slice Ao26 t106.length co26) t106) ∧ Aside0 (Below w.heap.size w w'))
             case atStart => exact ⟨(0), (by first | rfl | (simp; done) | (simp [*]; done)), H', ⟨Nat.le_refl _⟩, ⟨by (with_reducible repeat (first | apply Ra | apply Rn | apply Rd)); exact HO_11.out⟩, ⟨by (with_reducible repeat (first | apply Ra | apply Rn | apply Rd)); exact HO_14.out⟩, ⟨by repeat (first | (with_reducible first | exact HB.out | apply lA | apply lN | apply lD) | exact HB.out)⟩⟩
             case round =>
              clear H'
              try clear c1
              try clear p1
              try clear q1
              try clear hx1
              try clear c2
              try clear p2
              try clear c3
              try clear c6
              try clear p6
              try clear c7
              try clear c7b0
              try clear c7b1
              try clear p11
              try clear q11
              try clear hx11
              try clear p12
              try clear q12
              try clear hx12
              try clear c16
              try clear c16b0
              try clear c16b1
              try clear c18
              try clear c18b0
              try clear c19
              try clear c19b0
              try clear c23
              try clear c24
              try clear c24b0
              try clear c24b1
              try clear c24b2
              try clear c27
              try clear c27b0
              try clear c28
              try clear c28b0
              try clear c29
              try clear c30
              try clear c30b0
              try clear c32
              try clear c32b0
              try clear c33
              try clear c33b0
              try clear c34
              try clear c34b0
              try clear c34b1
              try clear c35
              try clear c35b0
              try clear c36
              try clear c36b0
              try clear c37
              try clear hx112_0
              try clear hx119_0
              try clear hx119_1
              try clear hx120_0
              try clear hx121_0
              try clear hx121_1
              try clear hx122_0
              try clear p1
              try clear p11
              try clear p112
              try clear p119
              try clear p120
              try clear p121
              try clear p122
              try clear p2
              try clear p6
              try clear q1
              try clear q11
              try clear q112
              try clear q119
              try clear q120
              try clear q121
              try clear q122
              obtain ⟨x19_4, rfl, HA, HK4, HO_11, HO_14, HB⟩ := hrel
              cases gk with
              | zero => exact absurd HA.out (by simp [lambrequinlaw10_GraphPaths.l2])
              | succ k4 =>
               have H := HA.out
               clear HA
               simp only [lambrequinlaw10_GraphPaths.l2] at H
               by_cases c38 : x19_4 < x16_2
               ·rw [if_pos c38] at H
                have c38b0 : decide (x19_4 < x16_2) = true := decide_eq_true c38
                clear c38
                by_cases c39 : 0 ≤ x16_2
                ·rw [if_pos c39] at H
                 have c39b0 : decide (0 ≤ x16_2) = true := decide_eq_true c39
                 clear c39
                 by_cases c40 : x16_2 < (t106.length : Int)
                 ·rw [if_pos c40] at H
                  have c40b0 : decide (x16_2 < (t106.length : Int)) = true := decide_eq_true c40
                  clear c40
                  by_cases c41 : 0 ≤ x19_4
                  ·rw [if_pos c41] at H
                   have c41b0 : decide (0 ≤ x19_4) = true := decide_eq_true c41
                   clear c41
                   by_cases c42 : x19_4 < (t106.length : Int)
                   ·rw [if_pos c42] at H
                    have c42b0 : decide (x19_4 < (t106.length : Int)) = true := decide_eq_true c42
                    clear c42
                    by_cases c43 : (rd t106 x16_2) = (rd t106 x19_4)
                    ·rw [if_pos c43] at H
                     have c43b0 : ((rd t106 x16_2) == (rd t106 x19_4)) = true := beq_iff_eq.mpr c43
                     have c43b1 : ((rd t106 x16_2) != (rd t106 x19_4)) = false := bne_eq_false_iff_eq.mpr c43
                     clear c43
                     obtain rfl := Option.some.inj H
                     have p123 : 0 ≤ (x16_2 : Int) := of_decide_eq_true (by first | (with_reducible assumption) | assumption)
                     have q123 : x16_2 < (t106.length : Int) := of_decide_eq_true (by first | (with_reducible assumption) | assumption)
                     obtain ⟨ad123, e123, hx123_0⟩ := Kd.at_int (Kd.R_reads' HO_14.out).2.2 x16_2 p123 q123
                     cases e123
                     replace p123 := eq_true p123
                     replace q123 := eq_true q123
                     have p124 : 0 ≤ (x19_4 : Int) := of_decide_eq_true (by first | (with_reducible assumption) | assumption)
                     have q124 : x19_4 < (t106.length : Int) := of_decide_eq_true (by first | (with_reducible assumption) | assumption)
                     obtain ⟨ad124, e124, hx124_0⟩ := Kd.at_int (Kd.R_reads' HO_14.out).2.2 x19_4 p124 q124
                     obtain rfl : ad123 = ad124 := (by injection e124)
                     replace p124 := eq_true p124
                     replace q124 := eq_true q124
                     go_wp2
                     repeat (go_quiet (fail); try go_wp2)
                     go_ret
                     exact ⟨by first | rfl | (simp [errW_none, errW_some] <;> rfl) | (simp [*, errW_none, errW_some] <;> rfl), by repeat (first | (with_reducible first | exact HB.out | apply lA | apply lN | apply lD) | exact HB.out)⟩
                    ·rw [if_neg c43] at H
                     have c43b0 : ((rd t106 x16_2) == (rd t106 x19_4)) = false := beq_eq_false_iff_ne.mpr c43
                     have c43b1 : ((rd t106 x16_2) != (rd t106 x19_4)) = true := bne_iff_ne.mpr c43
                     have H' := am H
                     clear H
                     have p123 : 0 ≤ (x16_2 : Int) := of_decide_eq_true (by first | (with_reducible assumption) | assumption)
                     have q123 : x16_2 < (t106.length : Int) := of_decide_eq_true (by first | (with_reducible assumption) | assumption)
                     obtain ⟨ad123, e123, hx123_0⟩ := Kd.at_int (Kd.R_reads' HO_14.out).2.2 x16_2 p123 q123
                     cases e123
                     replace p123 := eq_true p123
                     replace q123 := eq_true q123
                     have p124 : 0 ≤ (x19_4 : Int) := of_decide_eq_true (by first | (with_reducible assumption) | assumption)
                     have q124 : x19_4 < (t106.length : Int) := of_decide_eq_true (by first | (with_reducible assumption) | assumption)
                     obtain ⟨ad124, e124, hx124_0⟩ := Kd.at_int (Kd.R_reads' HO_14.out).2.2 x19_4 p124 q124
                     obtain rfl : ad123 = ad124 := (by injection e124)
                     replace p124 := eq_true p124
                     replace q124 := eq_true q124
                     go_wp2
                     repeat (go_quiet (fail); try go_wp2)
                     go_roundg k4
                     case measure => have := HJ9.out; have := HK2.out; have := HK3.out; have := HK4.out; omega
                     case rel => exact ⟨(wrap64 (x19_4 + 1)), (by first | rfl | (simp; done) | (simp [*]; done)), H', ⟨by have := HJ9.out; have := HK2.out; have := HK3.out; have := HK4.out; omega⟩, ⟨by (with_reducible repeat (first | apply Ra | apply Rn | apply Rd)); exact HO_11.out⟩, ⟨by (with_reducible repeat (first | apply Ra | apply Rn | apply Rd)); exact HO_14.out⟩, ⟨by repeat (first | (with_reducible first | exact HB.out | apply lA | apply lN | apply lD) | exact HB.out)⟩⟩
                   ·rw [if_neg c42] at H
                    exact absurd H (by simp)
                  ·rw [if_neg c41] at H
                   exact absurd H (by simp)
                 ·rw [if_neg c40] at H
                  exact absurd H (by simp)
                ·rw [if_neg c39] at H
                 exact absurd H (by simp)
               ·rw [if_neg c38] at H
                have c38b0 : decide (x19_4 < x16_2) = false := decide_eq_false c38
                clear c38
                have H' := am H
                clear H
                go_wp2
                repeat (go_quiet (fail); try go_wp2)
                go_roundg k4
                case measure => have := HJ9.out; have := HK2.out; have := HK3.out; have := HK4.out; omega
                case rel => exact ⟨(wrap64 (x16_2 + 1)), (by first | rfl | (simp; done) | (simp [*]; done)), H', ⟨by have := HJ9.out; have := HK2.out; have := HK3.out; have := HK4.out; omega⟩, ⟨by (with_reducible repeat (first | apply Ra | apply Rn | apply Rd)); exact HO_11.out⟩, ⟨by (with_reducible repeat (first | apply Ra | apply Rn | apply Rd)); exact HO_14.out⟩, ⟨by repeat (first | (with_reducible first | exact HB.out | apply lA | apply lN | apply lD) | exact HB.out)⟩⟩
            ·replace c37 := Bool.eq_false_iff.mpr c37
             subst c37
             have H1 : (some false) = some r := by rw [if_neg (show ¬ (false = true) by decide)] at H; exact H
             clear H
             have H := H1
             clear H1
             obtain rfl := Option.some.inj H
             go_wp2
             repeat (go_quiet (fail); try go_wp2)
             go_ret
             exact ⟨by first | rfl | (simp [errW_none, errW_some] <;> rfl) | (simp [*, errW_none, errW_some] <;> rfl), by repeat (first | (with_reducible first | exact HB.out | apply lA | apply lN | apply lD) | exact HB.out)⟩
        ·rw [if_neg c27] at H
         have c27b0 : decide (x16_2 < (t106.length : Int)) = false := decide_eq_false c27
         clear c27
         by_cases c44 : t101 = true
         ·subst c44
          have H1 : (if 0 < (t106.length : Int) then (if (rd t106 0) = (Int.tmod (wrap64 (a2)) t102) then (if 0 ≤ (wrap64 ((t106.length : Int) - 1)) then (if (wrap64 ((t106.length : Int) - 1)) < (t106.length : Int) then (if (rd t106 (wrap64 ((t106.length : Int) - 1))) = (Int.tmod (wrap64 (a3)) t102) then ((lambrequinref10_Steps.f k2 t102 t103 (Int.tmod (wrap64 (a2)) t102)).bind fun t115 => (if 0 ≤ (Int.tmod (wrap64 (a3)) t102) then (if (Int.tmod (wrap64 (a3)) t102) < (t115.length : Int) then (some ((wrap64 ((t106.length : Int) - 1)) == (rd t115 (Int.tmod (wrap64 (a3)) t102)))) else (none)) else (none))) else (some false)) else (none)) else (none)) else (some false)) else (none)) = some r := by rw [if_pos rfl] at H; exact H
          clear H
          have H := H1
          clear H1
          by_cases c45 : 0 < (t106.length : Int)
          ·rw [if_pos c45] at H
           have c45b0 : decide (0 < (t106.length : Int)) = true := decide_eq_true c45
           have c45b1 : decide (0 < t106.length) = true := decide_eq_true (by omega)
           clear c45
           by_cases c46 : (rd t106 0) = (Int.tmod (wrap64 (a2)) t102)
           ·rw [if_pos c46] at H
            have c46b0 : ((rd t106 0) == (Int.tmod (wrap64 (a2)) t102)) = true := beq_iff_eq.mpr c46
            have c46b1 : ((rd t106 0) != (Int.tmod (wrap64 (a2)) t102)) = false := bne_eq_false_iff_eq.mpr c46
            clear c46
            obtain ⟨ji47, hji47⟩ : ∃ j_ : Int, (wrap64 ((t106.length : Int) - 1)) = j_ := ⟨_, rfl⟩
            replace H : (if 0 ≤ (ji47) then (if (ji47) < (t106.length : Int) then (if (rd t106 (ji47)) = (Int.tmod (wrap64 (a3)) t102) then ((lambrequinref10_Steps.f k2 t102 t103 (Int.tmod (wrap64 (a2)) t102)).bind fun t115 => (if 0 ≤ (Int.tmod (wrap64 (a3)) t102) then (if (Int.tmod (wrap64 (a3)) t102) < (t115.length : Int) then (some ((ji47) == (rd t115 (Int.tmod (wrap64 (a3)) t102)))) else (none)) else (none))) else (some false)) else (none)) else (none)) = some r := by first | (rw [hji47] at H; exact H) | (simp only [hji47] at H ⊢; exact H)
            have hji47w : (IntKind.i64.wrap ((t106.length : Int) - 1)) = ji47 := (i64_w _).trans hji47
            by_cases c48 : 0 ≤ (ji47)
            ·rw [if_pos c48] at H
             have c48b0 : decide (0 ≤ (ji47)) = true := decide_eq_true c48
             clear c48
             by_cases c49 : (ji47) < (t106.length : Int)
             ·rw [if_pos c49] at H
              have c49b0 : decide ((ji47) < (t106.length : Int)) = true := decide_eq_true c49
              clear c49
              by_cases c50 : (rd t106 (ji47)) = (Int.tmod (wrap64 (a3)) t102)
              ·rw [if_pos c50] at H
               have c50b0 : ((rd t106 (ji47)) == (Int.tmod (wrap64 (a3)) t102)) = true := beq_iff_eq.mpr c50
               have c50b1 : ((rd t106 (ji47)) != (Int.tmod (wrap64 (a3)) t102)) = false := bne_eq_false_iff_eq.mpr c50
               clear c50
               replace H := Option.bind_eq_some_iff.mp H
               obtain ⟨t115, A510, H⟩ := H
               replace H : (if 0 ≤ (Int.tmod (wrap64 (a3)) t102) then (if (Int.tmod (wrap64 (a3)) t102) < (t115.length : Int) then (some ((ji47) == (rd t115 (Int.tmod (wrap64 (a3)) t102)))) else (none)) else (none)) = some r := H
               have A51 := am A510
               clear A510
               obtain ⟨ji52, hji52⟩ : ∃ j_ : Int, (Int.tmod (wrap64 (a3)) t102) = j_ := ⟨_, rfl⟩
               replace H : (if 0 ≤ (ji52) then (if (ji52) < (t115.length : Int) then (some ((ji47) == (rd t115 (ji52)))) else (none)) else (none)) = some r := by first | (rw [hji52] at H; exact H) | (simp only [hji52] at H ⊢; exact H)
               (try rw [hji52] at c50b0)
               (try rw [hji52] at c50b1)
               (try rw [hji52] at A51)
               by_cases c53 : 0 ≤ (ji52)
               ·rw [if_pos c53] at H
                have c53b0 : decide (0 ≤ (ji52)) = true := decide_eq_true c53
                clear c53
                by_cases c54 : (ji52) < (t115.length : Int)
                ·rw [if_pos c54] at H
                 have c54b0 : decide ((ji52) < (t115.length : Int)) = true := decide_eq_true c54
                 clear c54
                 obtain rfl := Option.some.inj H
                 have p113 : 0 ≤ (0 : Int) := (by omega)
                 have q113 : 0 < (t106.length : Int) := of_decide_eq_true (by first | (with_reducible assumption) | assumption)
                 obtain ⟨ad113, e113, hx113_0⟩ := Kd.at_int (Kd.R_reads' HO_14.out).2.2 0 p113 q113
                 cases e113
                 have qi113 : (0 < t106.length) = True := eq_true (by omega)
                 (try rw [show ((0 : Int)).toNat = 0 from rfl] at hx113_0)
                 (try rw [Addr.add_zero'] at hx113_0)
                 replace p113 := eq_true p113
                 replace q113 := eq_true q113
                 have p114 : 0 ≤ ((ji47) : Int) := of_decide_eq_true (by first | (with_reducible assumption) | assumption)
                 have q114 : (ji47) < (t106.length : Int) := of_decide_eq_true (by first | (with_reducible assumption) | assumption)
                 obtain ⟨ad114, e114, hx114_0⟩ := Kd.at_int (Kd.R_reads' HO_14.out).2.2 (ji47) p114 q114
                 obtain rfl : ad113 = ad114 := (by injection e114)
                 replace p114 := eq_true p114
                 replace q114 := eq_true q114
                 go_wp2_with (first | (go_at_call 26; (with_reducible refine (lambrequinref10_Steps.calls k2 t102 _ _ t103 (Int.tmod (wrap64 (a2)) t102) t115 _ ?side1 ?side2 A51.out).mono ?_); (case side1 => repeat (first | exact (Kd.R_reads' HO_11.out).2.2 | (with_reducible refine Kd.C_alloc ?_ _) | (with_reducible refine Kd.C_drewN ?_ _) | (with_reducible refine Kd.C_drew ?_))); (case side2 => exact (Kd.R_reads' HO_11.out).2.1); rintro e w55 ⟨v116, rfl, ho0, hb⟩; replace HO_11 := am (Kd.R_below (by (with_reducible repeat (first | apply Ra | apply Rn | apply Rd)); exact HO_11.out) hb); have HO117 := am (Kd.R_lower (Kd.R_new' ho0 (Kd.R_lt (by (with_reducible repeat (first | apply Ra | apply Rn | apply Rd)); exact HO_14.out))) (below_size (by repeat (first | (with_reducible first | exact HB.out | apply lA | apply lN | apply lD) | exact HB.out)))); replace HO_14 := am (Kd.R_elder' (by (with_reducible repeat (first | apply Ra | apply Rn | apply Rd)); exact HO_14.out) (Kd.R_base ho0) hb); replace HB := am (below_step (by repeat (first | (with_reducible first | exact HB.out | apply lA | apply lN | apply lD) | exact HB.out)) hb); (try clear hb); (try clear hb2); (try clear hk); (try clear hi); (try clear ho0); obtain ⟨Ao56, co56, eo56⟩ := Kd.R_slice HO117.out; subst eo56; have p118 : 0 ≤ ((ji52) : Int) := of_decide_eq_true (by first | (with_reducible assumption) | assumption); have q118 : (ji52) < (t115.length : Int) := of_decide_eq_true (by first | (with_reducible assumption) | assumption); obtain ⟨ad118, e118, hx118_0⟩ := Kd.at_int (Kd.R_reads' HO117.out).2.2 (ji52) p118 q118; cases e118; replace p118 := eq_true p118; replace q118 := eq_true q118))
                 repeat (go_quiet (first | (go_at_call 26; (with_reducible refine (lambrequinref10_Steps.calls k2 t102 _ _ t103 (Int.tmod (wrap64 (a2)) t102) t115 _ ?side1 ?side2 A51.out).mono ?_); (case side1 => repeat (first | exact (Kd.R_reads' HO_11.out).2.2 | (with_reducible refine Kd.C_alloc ?_ _) | (with_reducible refine Kd.C_drewN ?_ _) | (with_reducible refine Kd.C_drew ?_))); (case side2 => exact (Kd.R_reads' HO_11.out).2.1); rintro e w55 ⟨v116, rfl, ho0, hb⟩; replace HO_11 := am (Kd.R_below (by (with_reducible repeat (first | apply Ra | apply Rn | apply Rd)); exact HO_11.out) hb); have HO117 := am (Kd.R_lower (Kd.R_new' ho0 (Kd.R_lt (by (with_reducible repeat (first | apply Ra | apply Rn | apply Rd)); exact HO_14.out))) (below_size (by repeat (first | (with_reducible first | exact HB.out | apply lA | apply lN | apply lD) | exact HB.out)))); replace HO_14 := am (Kd.R_elder' (by (with_reducible repeat (first | apply Ra | apply Rn | apply Rd)); exact HO_14.out) (Kd.R_base ho0) hb); replace HB := am (below_step (by repeat (first | (with_reducible first | exact HB.out | apply lA | apply lN | apply lD) | exact HB.out)) hb); (try clear hb); (try clear hb2); (try clear hk); (try clear hi); (try clear ho0); obtain ⟨Ao56, co56, eo56⟩ := Kd.R_slice HO117.out; subst eo56; have p118 : 0 ≤ ((ji52) : Int) := of_decide_eq_true (by first | (with_reducible assumption) | assumption); have q118 : (ji52) < (t115.length : Int) := of_decide_eq_true (by first | (with_reducible assumption) | assumption); obtain ⟨ad118, e118, hx118_0⟩ := Kd.at_int (Kd.R_reads' HO117.out).2.2 (ji52) p118 q118; cases e118; replace p118 := eq_true p118; replace q118 := eq_true q118)); try go_wp2_with (first | (go_at_call 26; (with_reducible refine (lambrequinref10_Steps.calls k2 t102 _ _ t103 (Int.tmod (wrap64 (a2)) t102) t115 _ ?side1 ?side2 A51.out).mono ?_); (case side1 => repeat (first | exact (Kd.R_reads' HO_11.out).2.2 | (with_reducible refine Kd.C_alloc ?_ _) | (with_reducible refine Kd.C_drewN ?_ _) | (with_reducible refine Kd.C_drew ?_))); (case side2 => exact (Kd.R_reads' HO_11.out).2.1); rintro e w55 ⟨v116, rfl, ho0, hb⟩; replace HO_11 := am (Kd.R_below (by (with_reducible repeat (first | apply Ra | apply Rn | apply Rd)); exact HO_11.out) hb); have HO117 := am (Kd.R_lower (Kd.R_new' ho0 (Kd.R_lt (by (with_reducible repeat (first | apply Ra | apply Rn | apply Rd)); exact HO_14.out))) (below_size (by repeat (first | (with_reducible first | exact HB.out | apply lA | apply lN | apply lD) | exact HB.out)))); replace HO_14 := am (Kd.R_elder' (by (with_reducible repeat (first | apply Ra | apply Rn | apply Rd)); exact HO_14.out) (Kd.R_base ho0) hb); replace HB := am (below_step (by repeat (first | (with_reducible first | exact HB.out | apply lA | apply lN | apply lD) | exact HB.out)) hb); (try clear hb); (try clear hb2); (try clear hk); (try clear hi); (try clear ho0); obtain ⟨Ao56, co56, eo56⟩ := Kd.R_slice HO117.out; subst eo56; have p118 : 0 ≤ ((ji52) : Int) := of_decide_eq_true (by first | (with_reducible assumption) | assumption); have q118 : (ji52) < (t115.length : Int) := of_decide_eq_true (by first | (with_reducible assumption) | assumption); obtain ⟨ad118, e118, hx118_0⟩ := Kd.at_int (Kd.R_reads' HO117.out).2.2 (ji52) p118 q118; cases e118; replace p118 := eq_true p118; replace q118 := eq_true q118)))
                 go_ret
                 exact ⟨by first | rfl | (simp [errW_none, errW_some] <;> rfl) | (simp only [← hji47, ← hji52]; first | rfl | (simp [errW_none, errW_some] <;> rfl)) | (simp [*, errW_none, errW_some] <;> rfl), by repeat (first | (with_reducible first | exact HB.out | apply lA | apply lN | apply lD) | exact HB.out)⟩
                ·rw [if_neg c54] at H
                 exact absurd H (by simp)
               ·rw [if_neg c53] at H
                exact absurd H (by simp)
              ·rw [if_neg c50] at H
               have c50b0 : ((rd t106 (ji47)) == (Int.tmod (wrap64 (a3)) t102)) = false := beq_eq_false_iff_ne.mpr c50
               have c50b1 : ((rd t106 (ji47)) != (Int.tmod (wrap64 (a3)) t102)) = true := bne_iff_ne.mpr c50
               obtain rfl := Option.some.inj H
               have p113 : 0 ≤ (0 : Int) := (by omega)
               have q113 : 0 < (t106.length : Int) := of_decide_eq_true (by first | (with_reducible assumption) | assumption)
               obtain ⟨ad113, e113, hx113_0⟩ := Kd.at_int (Kd.R_reads' HO_14.out).2.2 0 p113 q113
               cases e113
               have qi113 : (0 < t106.length) = True := eq_true (by omega)
               (try rw [show ((0 : Int)).toNat = 0 from rfl] at hx113_0)
               (try rw [Addr.add_zero'] at hx113_0)
               replace p113 := eq_true p113
               replace q113 := eq_true q113
               have p114 : 0 ≤ ((ji47) : Int) := of_decide_eq_true (by first | (with_reducible assumption) | assumption)
               have q114 : (ji47) < (t106.length : Int) := of_decide_eq_true (by first | (with_reducible assumption) | assumption)
               obtain ⟨ad114, e114, hx114_0⟩ := Kd.at_int (Kd.R_reads' HO_14.out).2.2 (ji47) p114 q114
               obtain rfl : ad113 = ad114 := (by injection e114)
               replace p114 := eq_true p114
               replace q114 := eq_true q114
               go_wp2
               repeat (go_quiet (fail); try go_wp2)
               go_ret
               exact ⟨by first | rfl | (simp [errW_none, errW_some] <;> rfl) | (simp only [← hji47]; first | rfl | (simp [errW_none, errW_some] <;> rfl)) | (simp [*, errW_none, errW_some] <;> rfl), by repeat (first | (with_reducible first | exact HB.out | apply lA | apply lN | apply lD) | exact HB.out)⟩
             ·rw [if_neg c49] at H
              exact absurd H (by simp)
            ·rw [if_neg c48] at H
             exact absurd H (by simp)
           ·rw [if_neg c46] at H
            have c46b0 : ((rd t106 0) == (Int.tmod (wrap64 (a2)) t102)) = false := beq_eq_false_iff_ne.mpr c46
            have c46b1 : ((rd t106 0) != (Int.tmod (wrap64 (a2)) t102)) = true := bne_iff_ne.mpr c46
            obtain rfl := Option.some.inj H
            have p113 : 0 ≤ (0 : Int) := (by omega)
            have q113 : 0 < (t106.length : Int) := of_decide_eq_true (by first | (with_reducible assumption) | assumption)
            obtain ⟨ad113, e113, hx113_0⟩ := Kd.at_int (Kd.R_reads' HO_14.out).2.2 0 p113 q113
            cases e113
            have qi113 : (0 < t106.length) = True := eq_true (by omega)
            (try rw [show ((0 : Int)).toNat = 0 from rfl] at hx113_0)
            (try rw [Addr.add_zero'] at hx113_0)
            replace p113 := eq_true p113
            replace q113 := eq_true q113
            go_wp2
            repeat (go_quiet (fail); try go_wp2)
            go_ret
            exact ⟨by first | rfl | (simp [errW_none, errW_some] <;> rfl) | (simp [*, errW_none, errW_some] <;> rfl), by repeat (first | (with_reducible first | exact HB.out | apply lA | apply lN | apply lD) | exact HB.out)⟩
          ·rw [if_neg c45] at H
           exact absurd H (by simp)
         ·replace c44 := Bool.eq_false_iff.mpr c44
          subst c44
          have H1 : (some false) = some r := by rw [if_neg (show ¬ (false = true) by decide)] at H; exact H
          clear H
          have H := H1
          clear H1
          obtain rfl := Option.some.inj H
          go_wp2
          repeat (go_quiet (fail); try go_wp2)
          go_ret
          exact ⟨by first | rfl | (simp [errW_none, errW_some] <;> rfl) | (simp [*, errW_none, errW_some] <;> rfl), by repeat (first | (with_reducible first | exact HB.out | apply lA | apply lN | apply lD) | exact HB.out)⟩
end Go.Proofs.Ytmlhnjonmjmhdaa.H
/- GraphPaths: there is a path just if the node is reached; by edges alone, no node twice, and none is shorter -/
namespace Go.Proofs.Ytmlhnjonmjmhdaa.H
open Go.RowKit Go.Proofs.YtmlhnjonmjmhdaaW.PrintWords
theorem paths_l2 {n a b : Nat} {es : List IPair} {p : List Int} (hp : IsP (rws n es) a b p) (hlp : p.length ≤ 1000000) {x12 x13 : Int} {i : Nat} (hi : i < p.length) (next : Ev (fun k => lambrequinlaw10_GraphPaths.l0 k true (n : Int) es x12 x13 p ((i + 1 : Nat) : Int)) true) :
    ∀ (m j : Nat), j + m = i → Ev (fun k => lambrequinlaw10_GraphPaths.l2 k true (n : Int) es x12 x13 p (i : Int) (j : Int)) true
  | 0, j, h => by
    refine Ev.step (fun k => by rw [lambrequinlaw10_GraphPaths.l2]) ?_
    refine Ev.neg (by omega) ?_
    rw [wrap_up (by omega)]
    exact next
  | m + 1, j, h => by
    have hj : j < p.length := by omega
    have e1 : rd p (i : Int) = p[i] := getD_at (List.getElem?_eq_getElem hi) _
    have e2 : rd p (j : Int) = p[j] := getD_at (List.getElem?_eq_getElem hj) _
    have hne : ¬ p[i] = p[j] := by
      intro e
      have w1 := hp.walk j 0 _ _ hp.fst (by rw [Nat.zero_add]; exact List.getElem?_eq_getElem hj)
      have w2 := hp.walk (p.length - 1 - i) i _ _ (List.getElem?_eq_getElem hi) (by rw [show i + (p.length - 1 - i) = p.length - 1 by omega]; exact hp.lst)
      rw [e] at w2
      rw [Int.toNat_natCast] at w1 w2
      have := hp.short _ (w1.trans w2)
      omega
    refine Ev.step (fun k => by rw [lambrequinlaw10_GraphPaths.l2]) ?_
    refine Ev.pos (by omega) (Ev.pos (by omega) (Ev.pos (by omega) (Ev.pos (by omega) (Ev.pos (by omega) (Ev.neg (by rw [e1, e2]; exact hne) ?_)))))
    rw [wrap_up (by omega)]
    exact paths_l2 hp hlp hi next m (j + 1) (by omega)
theorem paths_l1 {n : Nat} {es : List IPair} {p : List Int} (hlp : p.length ≤ 1000000) (hl : es.length ≤ 1000000) {x12 x13 : Int} {i : Nat} (hi0 : 0 < i) (hi : i < p.length) {u v : Int} (hu : p[i - 1]? = some u) (hv : p[i]? = some v)
    (next : Ev (fun k => lambrequinlaw10_GraphPaths.l2 k true (n : Int) es x12 x13 p (i : Int) ((0 : Nat) : Int)) true) :
    ∀ (d : List IPair) (j : Nat) (q : Bool), es.drop j = d → (q = true ∨ ∃ e ∈ d, e.fst = u ∧ e.snd = v) → Ev (fun k => lambrequinlaw10_GraphPaths.l1 k true (n : Int) es x12 x13 p (i : Int) q (j : Int)) true
  | [], j, q, hd, hq => by
    have hq : q = true := by
      rcases hq with hq | ⟨e, he, _⟩
      · exact hq
      · cases he
    refine Ev.step (fun k => by rw [lambrequinlaw10_GraphPaths.l1]) ?_
    exact Ev.neg (drop_end hd) (Ev.pos hq next)
  | y :: d, j, q, hd, hq => by
    obtain ⟨h1, h2, h3, h4, h5⟩ := drop_more hd (by omega)
    have e : rd_T27 es (j : Int) = y := h3 _
    have e0 : wrap64 ((i : Int) - 1) = ((i - 1 : Nat) : Int) := by clear h5; unfold wrap64; omega
    have eu : rd p ((i - 1 : Nat) : Int) = u := getD_at hu _
    have ev : rd p (i : Int) = v := getD_at hv _
    have next' := fun q' hq' => paths_l1 hlp hl hi0 hi hu hv next d (j + 1) q' h4 hq'
    refine Ev.step (fun k => by rw [lambrequinlaw10_GraphPaths.l1]) ?_
    rw [h5, e, e0, eu, ev]
    clear h5 e0
    refine Ev.pos h1 ?_
    by_cases hq1 : q = true
    · exact Ev.pos hq1 (next' true (.inl rfl))
    · refine Ev.neg hq1 (Ev.pos h2 (Ev.pos (by omega) (Ev.pos (by omega) ?_)))
      have hq := hq.resolve_left hq1
      by_cases c : y.fst = u
      · refine Ev.pos c (Ev.pos (by omega) (Ev.pos (by omega) ?_))
        refine next' _ ?_
        by_cases c2 : y.snd = v
        · exact .inl (by simpa using c2)
        · refine .inr ?_
          obtain ⟨e, he, h6, h7⟩ := hq
          rcases List.mem_cons.1 he with rfl | he
          · exact absurd h7 c2
          · exact ⟨e, he, h6, h7⟩
      · refine Ev.neg c (next' _ (.inr ?_))
        obtain ⟨e, he, h6, h7⟩ := hq
        rcases List.mem_cons.1 he with rfl | he
        · exact absurd h6 c
        · exact ⟨e, he, h6, h7⟩
theorem paths_l0 {n a b : Nat} {es : List IPair} (hn : n ≤ 1000) (ha : a < n) (hbn : b < n) (hin : inE n es) (hl : es.length ≤ 1000000) {p : List Int} (hp : IsP (rws n es) a b p) :
    ∀ (m i : Nat), 0 < i → i + m = p.length → Ev (fun k => lambrequinlaw10_GraphPaths.l0 k true (n : Int) es (a : Int) (b : Int) p (i : Int)) true
  | 0, i, hi, h => by
    have hpl := hp.few
    rw [rws_len] at hpl
    have e0 : wrap64 ((p.length : Int) - 1) = ((p.length - 1 : Nat) : Int) := by unfold wrap64; omega
    have e1 : rd p 0 = (a : Int) := getD_at (n := 0) hp.fst _
    have e2 : rd p ((p.length - 1 : Nat) : Int) = (b : Int) := getD_at hp.lst _
    obtain ⟨out, ho, hs⟩ := Steps_ex (a := a) (by omega) ha hin hl
    have hw := hp.walk (p.length - 1) 0 _ _ hp.fst (by rw [Nat.zero_add]; exact hp.lst)
    rw [Int.toNat_natCast, Int.toNat_natCast] at hw
    have hlen := hs.len
    have e3 : rd out (b : Int) = ((p.length - 1 : Nat) : Int) := by
      show out.getD ((b : Int)).toNat 0 = _
      rw [Int.toNat_natCast]
      rcases hs.val b hbn with ⟨_, h2, _⟩ | ⟨q, _, h1, h2, h3⟩
      · exact absurd hw (h2 _ (by clear e0; omega))
      · have h4 := hp.short _ h2
        have h5 := h3 _ hw
        rw [h1]
        clear e0
        omega
    refine Ev.step (fun k => by rw [lambrequinlaw10_GraphPaths.l0]) ?_
    rw [e0, e1, e2]
    clear e0
    refine Ev.neg (by omega) (Ev.pos rfl (Ev.pos (by omega) (Ev.pos rfl (Ev.pos (by omega) (Ev.pos (by omega) (Ev.pos rfl (Ev.bind ho (Ev.pos (by omega) (Ev.pos (by omega) (Ev.some ?_))))))))))
    rw [e3]
    simp
  | m + 1, i, hi, h => by
    have hpl := hp.few
    rw [rws_len] at hpl
    have hil : i < p.length := by omega
    have next := paths_l0 hn ha hbn hin hl hp m (i + 1) (by omega) (by omega)
    have hu : p[i - 1]? = some (p[i - 1]'(by omega)) := List.getElem?_eq_getElem _
    have hv : p[i]? = some p[i] := List.getElem?_eq_getElem hil
    have hedge := hp.edge (i - 1) _ _ hu (by rw [show i - 1 + 1 = i by omega]; exact hv)
    obtain ⟨_, e, he, h1, h2⟩ := mem_rws.1 hedge
    have hub := hp.bnd _ (List.mem_of_getElem? hu)
    have heb := hin e he
    refine Ev.step (fun k => by rw [lambrequinlaw10_GraphPaths.l0]) ?_
    refine Ev.pos (by omega) ?_
    exact paths_l1 (by omega) hl hi hil hu hv (paths_l2 hp (by omega) hil next i 0 (by omega)) es 0 false rfl (.inr ⟨e, he, by omega, h2⟩)
theorem GraphPaths_ev (a0 : Int) (h0 : 0 ≤ a0) (h1 : a0 < 256) (l : List BPair) (hl : l.length ≤ 9223372036854775807) (hb : ∀ e ∈ l, byteP e) (a2 : Int) (h4 : 0 ≤ a2) (h5 : a2 < 256) (a3 : Int) (h6 : 0 ≤ a3) (h7 : a3 < 256) : Ev (fun k => lambrequinlaw10_GraphPaths.f k a0 l a2 a3) true := by
  obtain ⟨n, es, hn, hn2, hev, hel, hin⟩ := ends_ev a0 h0 h1 l hl hb
  have w2 : wrap64 a2 = a2 := by unfold wrap64; omega
  have w3 : wrap64 a3 = a3 := by unfold wrap64; omega
  have t2 := tmod_in (v := a2) (n := (n : Int)) h4 (by clear w2 w3; omega)
  have t3 := tmod_in (v := a3) (n := (n : Int)) h6 (by clear w2 w3; omega)
  unfold lambrequinlaw10_GraphPaths.f
  simp only [w2, w3]
  clear w2 w3
  obtain ⟨a, ha⟩ := Int.eq_ofNat_of_zero_le t2.1
  obtain ⟨b, hbb⟩ := Int.eq_ofNat_of_zero_le t3.1
  have han : a < n := by omega
  have hbn : b < n := by omega
  have hbad := inE_bad hin (by omega)
  have r1 := reach_len hbad han
  refine Ev.bind shown10_ev (Ev.bind hev ?_)
  simp only [ha, hbb]
  refine Ev.neg (by omega) ?_
  by_cases hr : Rch (rws n es) a b
  · obtain ⟨p, hp, hpi, _⟩ := (Path_is (by omega) hbad han hbn).1 hr
    have hpos := hpi.pos
    refine Ev.bind hp (Ev.bind (Reach_ev (by omega) hbad han) (Ev.pos (by omega) (Ev.pos (by omega) (Ev.pos (by omega) ?_))))
    rw [(reach_true hbad han hbn).2 hr, show decide ((p.length : Int) > 0) = true by simp; omega]
    refine Ev.step (fun k => by rw [lambrequinlaw10_GraphPaths.j0]) ?_
    exact Ev.neg (by decide) (Ev.neg (by omega) (paths_l0 (by omega) han hbn hin (by omega) hpi (p.length - 1) 1 (by omega) (by omega)))
  · refine Ev.bind ((Path_is (by omega) hbad han hbn).2 hr) (Ev.bind (Reach_ev (by omega) hbad han) (Ev.pos (by omega) (Ev.pos (by omega) (Ev.pos (by omega) ?_))))
    have hf : rdOf false (reachL (rws n es) a) (b : Int) = false := by
      cases hx : rdOf false (reachL (rws n es) a) (b : Int) with
      | false => rfl
      | true => exact absurd ((reach_true hbad han hbn).1 hx) hr
    rw [hf]
    refine Ev.step (fun k => by rw [lambrequinlaw10_GraphPaths.j0]) ?_
    exact Ev.neg (by decide) (Ev.pos rfl (Ev.now _))
theorem GraphPaths_pure (a0 : Int) (w0 : (Lit.int .u8 a0).wf = true) (x1 : List BPair) (y1 : x1.length * 2 ≤ 140737488351232) (b1 : x1.length ≤ 9223372036854775807 ∧ ∀ y ∈ x1, bBPair y) (a2 : Int) (w2 : (Lit.int .u8 a2).wf = true) (a3 : Int) (w3 : (Lit.int .u8 a3).wf = true) :
    ∃ k, lambrequinlaw10_GraphPaths.f k a0 x1 a2 a3 = some true :=
  Ev.rounds (g := fun k => lambrequinlaw10_GraphPaths.f k a0 x1 a2 a3) (GraphPaths_ev a0 (byte_wf w0).1 (byte_wf w0).2 x1 b1.1 (bytes_of b1.2) a2 (byte_wf w2).1 (byte_wf w2).2 a3 (byte_wf w3).1 (byte_wf w3).2)
theorem GraphPaths_walk (w : World) (a0 : Int) (w0 : (Lit.int .u8 a0).wf = true) (x1 : (List BPair)) (A1 : Option Addr) (c1 : Nat) (l1 : x1.length ≤ c1) (g1 : Kd.C k45 w A1 x1.length x1) (y1 : x1.length * 2 ≤ 140737488351232) (b1 : x1.length ≤ 9223372036854775807 ∧ ∀ y ∈ x1, bBPair y) (a2 : Int) (w2 : (Lit.int .u8 a2).wf = true) (a3 : Int) (w3 : (Lit.int .u8 a3).wf = true) :
    Calls Try.prog 6 #[.int .u8 a0, .slice A1 x1.length c1, .int .u8 a2, .int .u8 a3] w fun e w' => e = .returned (.bool true) ∧ Below w.heap.size w w' := by
  obtain ⟨k, h⟩ := GraphPaths_pure a0 w0 x1 y1 b1 a2 w2 a3 w3
  exact (lambrequinlaw10_GraphPaths.calls k a0 A1 c1 x1 a2 a3 true w g1 l1 h).mono (fun e w' h' => ⟨h'.1, h'.2⟩)
end Go.Proofs.Ytmlhnjonmjmhdaa.H
namespace Go.Proofs.Ytmlhnjonmjmhdaa.graphPaths
open Go.ChangeShapes Go.WideShapes Go.ChangeAt Go.RowKit Go.Proofs.Ytmlhnjonmjmhdaa.H Go.Proofs.YtmlhnjonmjmhdaaW.PrintWords
open Go.ChangeMaps (open_string shut_string)
theorem own : ownKnob Try.prog.godebug = none := by kernel_rfl
theorem laidOut : laidOutB Try.prog = true := by kernel_rfl
set_option maxRecDepth 100000 in
theorem lifted (os : Os) (started : os.Started) (H : Type) (enc : TypeId × Value → H) :
    ReturnsInHanded {} Try.checked os 6 .any (Rows.graphPathsSpec.pre6 enc Try.prog Try.f6 Rows.graphPathsRow.domain false) (Rows.graphPathsSpec.post enc Try.prog Try.f6 false true false false) := by
  refine returnsInHanded_of_change_sized (C := Try.checked) own started (by kernel_rfl) Try.func6
    (ChangeSpec.witness6 (enc := enc) (C := Try.checked) false ⟨#[], #[.int .u8 0, .slice none 0 0, .int .u8 0, .int .u8 0], []⟩ 8 (by kernel_rfl) (by kernel_rfl) (by kernel_rfl) (by kernel_rfl)) ?_
  intro W base args ds gs before hval0 hW hcnd hsz0 _
  have hsz : (DataW.weightsEach Try.prog (Try.f6.params.toList ++ Rows.graphPathsSpec.plain.varTypes Try.prog) (ds ++ gs)).all (· ≤ reachBytes) = true := hsz0
  have hval : ∀ (j : Nat) t v, Try.f6.params[j]? = some t → args[j]? = some v → Value.okWide Try.prog W .any base t v := hval0
  have hW' := hW
  obtain ⟨p, q, hA0, hV, rfl, hfz, hnd⟩ := hW
  have hA : DataW.TrodAll enc Try.prog W 0 (fun _ => true) true Try.f6.params.toList args.toList ds p := hA0
  rw [Try.params6] at hA hval hsz
  obtain ⟨v0, vs0, d0, ds0, p0, q0, hargs, rfl, rfl, h0, r0⟩ := trodAll_cons hA
  obtain ⟨v1, vs1, d1, ds1, p1, q1, rfl, rfl, rfl, h1, r1⟩ := trodAll_cons r0
  obtain ⟨v2, vs2, d2, ds2, p2, q2, rfl, rfl, rfl, h2, r2⟩ := trodAll_cons r1
  obtain ⟨v3, vs3, d3, ds3, p3, q3, rfl, rfl, rfl, h3, r3⟩ := trodAll_cons r2
  obtain ⟨rfl, rfl, rfl⟩ := trodAll_nil r3
  obtain rfl : args = #[v0, v1, v2, v3] := by cases args; simp_all
  obtain ⟨rfl, rfl⟩ := trodVars_none hV
  obtain ⟨a0, rfl, rfl, rfl, w0⟩ := open_int Try.underlying5 (hval 0 5 v0 rfl rfl) h0
  have k1 := h1
  have lt1 : ∀ x ∈ p1, x.block < W.heap.size := by obtain ⟨m, hm⟩ := k1; exact DataW.trod_lt m _ _ _ hm
  obtain ⟨a1, len1, cap1, rfl⟩ := okWide_slice Try.underlying22 (hval 1 22 v1 rfl rfl)
  have y1 := sized_row hsz (j := 1) (t := 22) rfl rfl Try.underlying22 (B := 2) (by kernel_rfl) h1
  obtain ⟨x1, ⟨A1, c1, e1, l1, g1⟩, b1⟩ := (opens_slice Try.underlying22 (by kernel_rfl) opens_BPair 45).argB k1
  simp only [Value.cells, List.cons.injEq, and_true, Value.slice.injEq] at e1
  obtain ⟨rfl, rfl, rfl⟩ := e1
  obtain ⟨a2, rfl, rfl, rfl, w2⟩ := open_int Try.underlying5 (hval 2 5 v2 rfl rfl) h2
  obtain ⟨a3, rfl, rfl, rfl, w3⟩ := open_int Try.underlying5 (hval 3 5 v3 rfl rfl) h3
  clear hA0 hval0 hsz0 hsz
  refine (GraphPaths_walk W a0 w0 x1 a1 cap1 l1 g1 y1 b1 a2 w2 a3 w3).mono fun e W' ⟨he, bel⟩ => ?_
  subst he
  exact ⟨_, rfl, _, _, _, [], _, [], hW', trodAll_mk1 (shut_bool Try.underlying4 _), (trodAll_cons_mk (shut_int Try.underlying5 w0) (trodAll_cons_mk (Below.trod laidOut (by kernel_rfl) (of_decide_eq_true (by kernel_rfl)) k1 bel lt1) (trodAll_cons_mk (shut_int Try.underlying5 w2) (trodAll_cons_mk (shut_int Try.underlying5 w3) trodAll_mk0)))), rfl, bel.frame _, fun h => by cases h⟩
theorem over : Rows.graphPathsRow.holds Try.pinned (OpenSpec.ofChange Rows.graphPathsSpec) :=
  OpenClaim.holds_of_wide 6 Try.f6 rfl rfl rfl rfl rfl rfl rfl ⟨rfl, rfl, rfl, rfl, rfl⟩ rfl rfl rfl rfl rfl (by kernel_rfl) Try.func6 (by kernel_rfl)
    (of_decide_eq_true (by kernel_rfl)) (by unfold Func.isWrapper; first | (rw [if_pos (by decide +kernel)]; kernel_rfl) | (rw [if_neg (by decide +kernel)]; exact ⟨rfl, rfl⟩))
    (fun os started H enc _ => lifted os started H enc)
theorem proved : Rows.GraphPathsSaid := over
end Go.Proofs.Ytmlhnjonmjmhdaa.graphPaths
namespace Go.Proofs.Ytmlhnjonmjmhdaa
theorem graphPaths_holds : Rows.GraphPathsSaid := graphPaths.proved
#print axioms graphPaths_holds
end Go.Proofs.Ytmlhnjonmjmhdaa

/- RowSafeTells of the seat's law SafeTells: the law holds, under the statement's own conditions. -/
import Derived.Test.YthpejcnldecmoaaNXSafeTells
import Derived.Test.YthpejcnldecmoaaNXSafeTells1
import Derived.Test.YthpejcnldecmoaaNW
namespace Go.Proofs.Ythpejcnldecmoaa.H
open Go.RowKit Go.Proofs.YthpejcnldecmoaaW.PrintWords Go.Proofs.YthpejcnldecmoaaW.PrintLast Go.Proofs.YthpejcnldecmoaaW.PrintMore
attribute [local go_sem] max2_int min2_int max_two min_two max_three min_three max_four min_four
set_option linter.unusedVariables false
set_option linter.unusedSimpArgs false
def lambrequinref09_loose.l0 : Nat → List (Term) → Int → ByteArray → List (Term) → List (Liter) → Option (ByteArray × Bool)
 | 0, _, _, _, _, _ => none
 | k + 1, x1, x6, x102000, x102001, x102002 => if x6 < (x1.length : Int) then (if 0 ≤ x6 then (if (rd_T45 x1 x6).isVar = true then ((lambrequinref09_Binds.f k x102000 x102001 x102002 ((rd_T45 x1 x6).name)).bind fun t104 => (if t104 = true then (lambrequinref09_loose.l0 k x1 (wrap64 (x6 + 1)) x102000 x102001 x102002) else (some ((rd_T45 x1 x6).name, true)))) else (lambrequinref09_loose.l0 k x1 (wrap64 (x6 + 1)) x102000 x102001 x102002)) else (none)) else (some ((⟨#[]⟩ : ByteArray), false))
def lambrequinref09_loose.f (k : Nat) (a0_0 : ByteArray) (l0_1 : List (Term)) (l0_2 : List (Liter)) (l1 : List (Term)) : Option (ByteArray × Bool) := lambrequinref09_loose.l0 k l1 0 a0_0 l0_1 l0_2
theorem lambrequinref09_loose.mono_l : ∀ k, (∀ y0 y1 y2 y3 y4, LeO (lambrequinref09_loose.l0 k y0 y1 y2 y3 y4) (lambrequinref09_loose.l0 (k + 1) y0 y1 y2 y3 y4))
 | 0 => fun _ _ _ _ _ r h => by simp [lambrequinref09_loose.l0] at h
 | k + 1 => by
  have ih0 := lambrequinref09_loose.mono_l k
  ·intro y0 y1 y2 y3 y4
   unfold lambrequinref09_loose.l0
   repeat' first
   | (with_reducible exact ih0 _ _ _ _ _)
   | (with_reducible exact lambrequinref09_Binds.mono _ _ _ _ _)
   | (with_reducible exact LeO.refl _)
   | (with_reducible exact LeO.none _)
   | (with_reducible refine LeO.ite ?_ ?_)
   | (with_reducible refine LeO.bind ?_ (fun _ => ?_))
   | exact ih0 _ _ _ _ _
   | exact lambrequinref09_Binds.mono _ _ _ _ _
   | exact LeO.none _
   | refine LeO.ite ?_ ?_
   | refine LeO.bind ?_ (fun _ => ?_)
theorem lambrequinref09_loose.mono : ∀ a0 a1 a2 a3 k, LeO (lambrequinref09_loose.f k a0 a1 a2 a3) (lambrequinref09_loose.f (k + 1) a0 a1 a2 a3) := by
 intro a0 a1 a2 a3 k
 have ih0 := lambrequinref09_loose.mono_l k
 unfold lambrequinref09_loose.f
 repeat' first
   | (with_reducible exact ih0 _ _ _ _ _)
   | (with_reducible exact lambrequinref09_Binds.mono _ _ _ _ _)
   | (with_reducible exact LeO.refl _)
   | (with_reducible exact LeO.none _)
   | (with_reducible refine LeO.ite ?_ ?_)
   | (with_reducible refine LeO.bind ?_ (fun _ => ?_))
   | exact ih0 _ _ _ _ _
   | exact lambrequinref09_Binds.mono _ _ _ _ _
   | exact LeO.none _
   | refine LeO.ite ?_ ?_
   | refine LeO.bind ?_ (fun _ => ?_)
def lambrequinref09_loose.T4 : Bool × List (List Nat × List Nat) := (true, [([], []), ([], []), ([0, 1], [0, 1]), ([2], [2]), ([3], [3]), ([4], [4]), ([5], [5]), ([5], [5]), ([5], [5]), ([7, 8, 5], [5, 7, 8]), ([9, 5], [5, 9]), ([10, 5], [5, 10]), ([6, 11, 5, 5], [5, 6, 11]), ([12, 5], [5, 12]), ([5, 13], [5, 13])])
def lambrequinref09_loose.B4 : List Nat := [0, 0, 3, 7, 15, 31, 63, 63, 63, 447, 959, 1983, 4095, 8191, 16383]
theorem lambrequinref09_loose.tab4 : rtab .any (opsOf Try.f52 4) = lambrequinref09_loose.T4 := by kernel_rfl
theorem lambrequinref09_loose.bits4 : waitsOk lambrequinref09_loose.T4.2 lambrequinref09_loose.B4 = true := by kernel_rfl
set_option maxHeartbeats 8000000 in
set_option maxRecDepth 100000 in
theorem lambrequinref09_loose.calls (k : Nat) (a0_0 : ByteArray) (A0_1 : Option Addr) (c0_1 : Nat) (l0_1 : List (Term)) (A0_2 : Option Addr) (c0_2 : Nat) (l0_2 : List (Liter)) (A1 : Option Addr) (c1 : Nat) (l1 : List (Term)) (r1 : ByteArray) (r2 : Bool) (w : World) (hr0_1 : Kd.C k45 w A0_1 l0_1.length l0_1) (hc0_1 : l0_1.length ≤ c0_1) (hr0_2 : Kd.C k47 w A0_2 l0_2.length l0_2) (hc0_2 : l0_2.length ≤ c0_2) (hr1 : Kd.C k45 w A1 l1.length l1) (hc1 : l1.length ≤ c1) (h : lambrequinref09_loose.f k a0_0 l0_1 l0_2 l1 = some (r1, r2)) :
  Calls Try.prog 52 #[.agg #[.string a0_0, .slice A0_1 l0_1.length c0_1, .slice A0_2 l0_2.length c0_2], .slice A1 l1.length c1] w fun e w' => e = .returned (.tuple #[.string r1, .bool r2]) ∧ Below w.heap.size w w' := by
 have hu27 := Try.underlying27
 have HR0_1 := am hr0_1
 have HC0_1 := am hc0_1
 clear hr0_1 hc0_1
 have HR0_2 := am hr0_2
 have HC0_2 := am hc0_2
 clear hr0_2 hc0_2
 have HR1 := am hr1
 have HC1 := am hc1
 clear hr1 hc1
 have HB := am (Below.refl w.heap.size w)
 have H : (lambrequinref09_loose.l0 k l1 0 a0_0 l0_1 l0_2) = some (r1, r2) := h
 clear h
 have H' := am H
 clear H
 go_enter Try.func52, Try.ntmps52
 go_wp2_with (first | ((with_reducible refine gate_dst (N := 2) rfl ?_); refine box_event ?hg (N := 2) ?hd (cs := #[.string a0_0, .slice A0_1 l0_1.length c0_1, .slice A0_2 l0_2.length c0_2]) (t := 27) ?hr ?_; (case hd => rfl); (case hg => rfl); (case hr => first | (go_simp; done) | (go_simp; rfl)); intro gb101 hg w3 hbox hb; have BK101 := am (hbox); have GW101 := am ((by rw [hg]; exact (below_size (by repeat (first | (with_reducible first | exact HB.out | apply lA | apply lN | apply lD) | exact HB.out))) : w.heap.size ≤ gb101)); have GE101 := am ((by rw [hg]; exact (below_size (by repeat (first | (with_reducible first | exact HB.out | apply lA | apply lN | apply lD) | exact HB.out))) : w.heap.size ≤ gb101)); replace HB := am (below_step (by repeat (first | (with_reducible first | exact HB.out | apply lA | apply lN | apply lD) | exact HB.out)) hb); clear hb hbox hg))
 go_loopg [6] k (fun kq v6 w' => ∃ (x6_1 : Int), v6 = .int .i64 x6_1 ∧ Aside0 (lambrequinref09_loose.l0 kq l1 x6_1 a0_0 l0_1 l0_2 = some (r1, r2)) ∧ Aside0 (kq ≤ k) ∧ Aside0 (w'.heap[gb101]? = some (.cells #[.string a0_0, (.slice A0_1 l0_1.length c0_1), (.slice A0_2 l0_2.length c0_2)] 27 (0, 0))) ∧ Aside0 (Below w.heap.size w w'))
 case atStart => exact ⟨(0), (by first | rfl | (simp; done) | (simp [*]; done)), H', ⟨Nat.le_refl _⟩, ⟨by (with_reducible repeat (first | refine bN ?_ _ | refine bD ?_ | refine bA ?_ _)); exact BK101.out⟩, ⟨by repeat (first | (with_reducible first | exact HB.out | apply lA | apply lN | apply lD | refine lS ?_ GE101.out) | exact HB.out)⟩⟩
 case round =>
  clear H'
  try clear c1
  try clear p2
  obtain ⟨x6_1, rfl, HA, HK1, BK101, HB⟩ := hrel
  cases gk with
  | zero => exact absurd HA.out (by simp [lambrequinref09_loose.l0])
  | succ k1 =>
   have H := HA.out
   clear HA
   simp only [lambrequinref09_loose.l0] at H
   by_cases c4 : x6_1 < (l1.length : Int)
   ·rw [if_pos c4] at H
    have c4b0 : decide (x6_1 < (l1.length : Int)) = true := decide_eq_true c4
    clear c4
    by_cases c5 : 0 ≤ x6_1
    ·rw [if_pos c5] at H
     have c5b0 : decide (0 ≤ x6_1) = true := decide_eq_true c5
     clear c5
     obtain ⟨bq6, hbq6⟩ : ∃ b_ : Bool, b_ = ((rd_T45 l1 x6_1).isVar) := ⟨_, rfl⟩
     replace H : (if bq6 = true then ((lambrequinref09_Binds.f k1 a0_0 l0_1 l0_2 ((rd_T45 l1 x6_1).name)).bind fun t104 => (if t104 = true then (lambrequinref09_loose.l0 k1 l1 (wrap64 (x6_1 + 1)) a0_0 l0_1 l0_2) else (some ((rd_T45 l1 x6_1).name, true)))) else (lambrequinref09_loose.l0 k1 l1 (wrap64 (x6_1 + 1)) a0_0 l0_1 l0_2)) = some (r1, r2) := by rw [← hbq6] at H; exact H
     have Nbq6 := am hbq6
     clear hbq6
     by_cases c7 : bq6 = true
     ·subst c7
      have H1 : ((lambrequinref09_Binds.f k1 a0_0 l0_1 l0_2 ((rd_T45 l1 x6_1).name)).bind fun t104 => (if t104 = true then (lambrequinref09_loose.l0 k1 l1 (wrap64 (x6_1 + 1)) a0_0 l0_1 l0_2) else (some ((rd_T45 l1 x6_1).name, true)))) = some (r1, r2) := by rw [if_pos rfl] at H; exact H
      clear H
      have H := H1
      clear H1
      replace H := Option.bind_eq_some_iff.mp H
      obtain ⟨t104, A80, H⟩ := H
      replace H : (if t104 = true then (lambrequinref09_loose.l0 k1 l1 (wrap64 (x6_1 + 1)) a0_0 l0_1 l0_2) else (some ((rd_T45 l1 x6_1).name, true))) = some (r1, r2) := H
      have A8 := am A80
      clear A80
      by_cases c9 : t104 = true
      ·subst c9
       have H1 : (lambrequinref09_loose.l0 k1 l1 (wrap64 (x6_1 + 1)) a0_0 l0_1 l0_2) = some (r1, r2) := by rw [if_pos rfl] at H; exact H
       clear H
       have H := H1
       clear H1
       have H' := am H
       clear H
       try go_wp2
       replace BK101 := am (blk_drew BK101.out)
       replace HB := am (below_drew1 HB.out)
       have p102 : 0 ≤ (x6_1 : Int) := of_decide_eq_true (by first | (with_reducible assumption) | assumption)
       have q102 : x6_1 < (l1.length : Int) := of_decide_eq_true (by first | (with_reducible assumption) | assumption)
       obtain ⟨ad102, e102, hx102_0, hx102_1, hx102_2, hx102_3, hx102_4⟩ := at_T45 HR1.out x6_1 p102 q102
       have hw102_4 := hx102_4
       have hw102_3 := hx102_3
       have hw102_2 := hx102_2
       have hw102_1 := hx102_1
       have hw102_0 := hx102_0
       (try rw [← Nbq6.out] at hx102_0)
       (try rw [← Nbq6.out] at hw102_0)
       (try rw [← Nbq6.out] at hx102_2)
       (try rw [← Nbq6.out] at hw102_2)
       cases e102
       replace hx102_0 := (HB.out.cell (blt_ hx102_0)).trans hx102_0
       replace hx102_1 := (HB.out.cell (blt_ hx102_1)).trans hx102_1
       replace hx102_2 := (HB.out.cell (blt_ hx102_2)).trans hx102_2
       replace hx102_3 := (HB.out.cell (blt_ hx102_3)).trans hx102_3
       replace hx102_4 := (HB.out.cell (blt_ hx102_4)).trans hx102_4
       replace p102 := eq_true p102
       replace q102 := eq_true q102
       have p103 : 0 ≤ (x6_1 : Int) := of_decide_eq_true (by first | (with_reducible assumption) | assumption)
       have q103 : x6_1 < (l1.length : Int) := of_decide_eq_true (by first | (with_reducible assumption) | assumption)
       obtain ⟨ad103, e103, hx103_0, hx103_1, hx103_2, hx103_3, hx103_4⟩ := at_T45 HR1.out x6_1 p103 q103
       have hw103_4 := hx103_4
       have hw103_3 := hx103_3
       have hw103_2 := hx103_2
       have hw103_1 := hx103_1
       have hw103_0 := hx103_0
       (try rw [← Nbq6.out] at hx103_0)
       (try rw [← Nbq6.out] at hw103_0)
       (try rw [← Nbq6.out] at hx103_2)
       (try rw [← Nbq6.out] at hw103_2)
       obtain rfl : ad102 = ad103 := (by injection e103)
       replace hx103_0 := (HB.out.cell (blt_ hx103_0)).trans hx103_0
       replace hx103_1 := (HB.out.cell (blt_ hx103_1)).trans hx103_1
       replace hx103_2 := (HB.out.cell (blt_ hx103_2)).trans hx103_2
       replace hx103_3 := (HB.out.cell (blt_ hx103_3)).trans hx103_3
       replace hx103_4 := (HB.out.cell (blt_ hx103_4)).trans hx103_4
       replace p103 := eq_true p103
       replace q103 := eq_true q103
       refine start_ (n := 15) (S := fun w' => w'.cell? ⟨gb101, 0, none⟩ = some (.string a0_0) ∧ w'.cell? ⟨gb101, 1, none⟩ = some (.slice A0_1 l0_1.length c0_1) ∧ w'.cell? ⟨gb101, 2, none⟩ = some (.slice A0_2 l0_2.length c0_2) ∧ w'.cell? (ad102.add ((x6_1).toNat * 5)) = some (.bool true) ∧ w'.cell? ⟨(ad102.add ((x6_1).toNat * 5)).block, (ad102.add ((x6_1).toNat * 5)).off + 1, none⟩ = some (.string ((rd_T45 l1 x6_1).name)) ∧ w'.cell? ⟨(ad102.add ((x6_1).toNat * 5)).block, (ad102.add ((x6_1).toNat * 5)).off + 2, none⟩ = some (.bool ((rd_T45 l1 x6_1).val.isSym)) ∧ w'.cell? ⟨(ad102.add ((x6_1).toNat * 5)).block, (ad102.add ((x6_1).toNat * 5)).off + 3, none⟩ = some (.string ((rd_T45 l1 x6_1).val.sym)) ∧ w'.cell? ⟨(ad102.add ((x6_1).toNat * 5)).block, (ad102.add ((x6_1).toNat * 5)).off + 4, none⟩ = some (.int .i64 ((rd_T45 l1 x6_1).val.n)) ∧ w'.cell? (ad102.add ((x6_1).toNat * 5)) = some (.bool (true)) ∧ w'.cell? ⟨(ad102.add ((x6_1).toNat * 5)).block, (ad102.add ((x6_1).toNat * 5)).off + 1, none⟩ = some (.string ((rd_T45 l1 x6_1).name)) ∧ w'.cell? ⟨(ad102.add ((x6_1).toNat * 5)).block, (ad102.add ((x6_1).toNat * 5)).off + 2, none⟩ = some (.bool ((rd_T45 l1 x6_1).val.isSym)) ∧ w'.cell? ⟨(ad102.add ((x6_1).toNat * 5)).block, (ad102.add ((x6_1).toNat * 5)).off + 3, none⟩ = some (.string ((rd_T45 l1 x6_1).val.sym)) ∧ w'.cell? ⟨(ad102.add ((x6_1).toNat * 5)).block, (ad102.add ((x6_1).toNat * 5)).off + 4, none⟩ = some (.int .i64 ((rd_T45 l1 x6_1).val.n))) (ds := []) (bl 15 0) (by kernel_rfl) rfl rfl ⟨(blk_cell BK101.out 0).trans rfl, (blk_cell BK101.out 1).trans rfl, (blk_cell BK101.out 2).trans rfl, ((HB.out.cell (blt_ hw102_0)).trans hw102_0), ((HB.out.cell (blt_ hw102_1)).trans hw102_1), ((HB.out.cell (blt_ hw102_2)).trans hw102_2), ((HB.out.cell (blt_ hw102_3)).trans hw102_3), ((HB.out.cell (blt_ hw102_4)).trans hw102_4), ((HB.out.cell (blt_ hw103_0)).trans hw103_0), ((HB.out.cell (blt_ hw103_1)).trans hw103_1), ((HB.out.cell (blt_ hw103_2)).trans hw103_2), ((HB.out.cell (blt_ hw103_3)).trans hw103_3), ((HB.out.cell (blt_ hw103_4)).trans hw103_4)⟩ (fun hHeld => ?_); refine with_tabW lambrequinref09_loose.tab4 lambrequinref09_loose.bits4 (fun HT_ HW_ => ?_)
       generalize wr.drew = w10 at BK101 HB hx102_0 hx102_1 hx102_2 hx102_3 hx102_4 hx103_0 hx103_1 hx103_2 hx103_3 hx103_4 hHeld ⊢
       refine pure_ (i := 0) (N := some 13) (v := ?_) (a' := ?_) (bl 15 1) rfl rfl (any_of HT_.out (by kernel_rfl)) (fun _ _ _ h => h) (Or.inl ⟨by rfl, ?_⟩) ?_ ?_
       rotate_left
       ·intro w'
        go_simp
        with_reducible rfl
       rotate_left
       ·simp only [Act.put, sA, sZ, sS, i64_w, i32_w]
        rfl
       refine pure_ (i := 1) (N := some 14) (v := ?_) (a' := ?_) (bl 15 3) rfl rfl (any_of HT_.out (by kernel_rfl)) (fun _ _ _ h => h) (Or.inl ⟨by rfl, ?_⟩) ?_ ?_
       rotate_left
       ·intro w'
        go_simp
        with_reducible rfl
       rotate_left
       ·simp only [Act.put, sA, sZ, sS, i64_w, i32_w]
        rfl
       refine pure_ (i := 2) (N := some 15) (v := ?_) (a' := ?_) (bl 15 7) rfl rfl (any_of HT_.out (by kernel_rfl)) (fun _ _ _ h => h) (Or.inl ⟨by rfl, ?_⟩) ?_ ?_
       rotate_left
       ·intro w'
        go_simp
        with_reducible rfl
       rotate_left
       ·simp only [Act.put, sA, sZ, sS, i64_w, i32_w]
        rfl
       refine pure_ (i := 3) (N := some 16) (v := ?_) (a' := ?_) (bl 15 15) rfl rfl (any_of HT_.out (by kernel_rfl)) (fun _ _ _ h => h) (Or.inl ⟨by rfl, ?_⟩) ?_ ?_
       rotate_left
       ·intro w'
        go_simp
        with_reducible rfl
       rotate_left
       ·simp only [Act.put, sA, sZ, sS, i64_w, i32_w]
        rfl
       refine take_ (i := 4) (N := some 17) (v := ?_) (a' := ?_) (bl 15 31) rfl rfl (take_ofW HT_.out HW_.out (by kernel_rfl)) (fun _ _ _ h => h) (Or.inl ⟨by rfl, ?_⟩) hHeld ?_ ?_
       rotate_left
       ·rintro w' ⟨s0, s1, s2, s3, s4, s5, s6, s7, s8, s9, s10, s11, s12⟩
        go_simp
        with_reducible rfl
       rotate_left
       ·simp only [Act.put, sA, sZ, sS, i64_w, i32_w]
        rfl
       refine pure_ (i := 5) (N := some 18) (v := ?_) (a' := ?_) (bl 15 63) rfl rfl (any_of HT_.out (by kernel_rfl)) (fun _ _ _ h => h) (Or.inl ⟨by rfl, ?_⟩) ?_ ?_
       rotate_left
       ·intro w'
        go_simp
        with_reducible rfl
       rotate_left
       ·simp only [Act.put, sA, sZ, sS, i64_w, i32_w]
        rfl
       refine pure_ (i := 7) (N := some 20) (v := ?_) (a' := ?_) (bl 15 191) rfl rfl (any_of HT_.out (by kernel_rfl)) (fun _ _ _ h => h) (Or.inl ⟨by rfl, ?_⟩) ?_ ?_
       rotate_left
       ·intro w'
        go_simp
        with_reducible rfl
       rotate_left
       ·simp only [Act.put, sA, sZ, sS, i64_w, i32_w]
        rfl
       refine pure_ (i := 8) (N := some 21) (v := ?_) (a' := ?_) (bl 15 447) rfl rfl (any_of HT_.out (by kernel_rfl)) (fun _ _ _ h => h) (Or.inl ⟨by rfl, ?_⟩) ?_ ?_
       rotate_left
       ·intro w'
        go_simp
        with_reducible rfl
       rotate_left
       ·simp only [Act.put, sA, sZ, sS, i64_w, i32_w]
        rfl
       refine pure_ (i := 9) (N := some 22) (v := ?_) (a' := ?_) (bl 15 959) rfl rfl (any_of HT_.out (by kernel_rfl)) (fun _ _ _ h => h) (Or.inl ⟨by rfl, ?_⟩) ?_ ?_
       rotate_left
       ·intro w'
        go_simp
        with_reducible rfl
       rotate_left
       ·simp only [Act.put, sA, sZ, sS, i64_w, i32_w]
        rfl
       refine pure_ (i := 10) (N := some 23) (v := ?_) (a' := ?_) (bl 15 1983) rfl rfl (any_of HT_.out (by kernel_rfl)) (fun _ _ _ h => h) (Or.inl ⟨by rfl, ?_⟩) ?_ ?_
       rotate_left
       ·intro w'
        go_simp
        with_reducible rfl
       rotate_left
       ·simp only [Act.put, sA, sZ, sS, i64_w, i32_w]
        rfl
       refine take_ (i := 6) (N := some 19) (v := ?_) (a' := ?_) (bl 15 2047) rfl rfl (take_ofW HT_.out HW_.out (by kernel_rfl)) (fun _ _ _ h => h) (Or.inl ⟨by rfl, ?_⟩) hHeld ?_ ?_
       rotate_left
       ·rintro w' ⟨s0, s1, s2, s3, s4, s5, s6, s7, s8, s9, s10, s11, s12⟩
        go_simp
        with_reducible rfl
       rotate_left
       ·simp only [Act.put, sA, sZ, sS, i64_w, i32_w]
        rfl
       refine take_ (i := 11) (N := some 24) (v := ?_) (a' := ?_) (bl 15 4095) rfl rfl (take_ofW HT_.out HW_.out (by kernel_rfl)) (fun _ _ _ h => h) (Or.inl ⟨by rfl, ?_⟩) hHeld ?_ ?_
       rotate_left
       ·rintro w' ⟨s0, s1, s2, s3, s4, s5, s6, s7, s8, s9, s10, s11, s12⟩
        go_simp
        with_reducible rfl
       rotate_left
       ·simp only [Act.put, sA, sZ, sS, i64_w, i32_w]
        rfl
       refine one_ (i := 12) (N := some 25) (bl 15 8191) rfl rfl (one_of HT_.out (by kernel_rfl)) (by decide) (fun K hK => ?_)
       refine goes_ Try.func27 (by kernel_rfl) rfl #[.agg #[.string a0_0, .slice A0_1 l0_1.length c0_1, .slice A0_2 l0_2.length c0_2], .string ((rd_T45 l1 x6_1).name)] (by rfl) rfl rfl (by (try simp only [List.map_toArray, List.map_cons, List.map_nil]); first | done | rfl | (simp only [List.length_drop, List.length_take]; rfl)) ?_
       with_reducible refine (lambrequinref09_Binds.calls k1 a0_0 _ _ l0_1 _ _ l0_2 ((rd_T45 l1 x6_1).name) true _ ?side1 ?side2 ?side3 ?side4 A8.out).mono ?_
       (case side1 => repeat (first | exact (Kd.C_below HR0_1.out HB.out) | (with_reducible refine Kd.C_alloc ?_ _) | (with_reducible refine Kd.C_drewN ?_ _) | (with_reducible refine Kd.C_drew ?_)))
       (case side2 => exact HC0_1.out)
       (case side3 => repeat (first | exact (Kd.C_below HR0_2.out HB.out) | (with_reducible refine Kd.C_alloc ?_ _) | (with_reducible refine Kd.C_drewN ?_ _) | (with_reducible refine Kd.C_drew ?_)))
       (case side4 => exact HC0_2.out)
       rintro e w11 ⟨rfl, hb⟩
       refine ⟨_, rfl, ?_⟩
       replace BK101 := am (blk_below (g := gb101) (o := .cells #[.string a0_0, .slice A0_1 l0_1.length c0_1, .slice A0_2 l0_2.length c0_2] 27 (0, 0)) (by (with_reducible repeat (first | refine bN ?_ _ | refine bD ?_ | refine bA ?_ _)); exact BK101.out) hb)
       replace HB := am (below_step (by repeat (first | (with_reducible first | exact HB.out | apply lA | apply lN | apply lD | refine lS ?_ GE101.out) | exact HB.out)) hb)
       (try clear hb)
       (try clear hb2)
       (try clear hk)
       (try clear hi)
       refine hK.out _ _ ⟨(blk_cell BK101.out 0).trans rfl, (blk_cell BK101.out 1).trans rfl, (blk_cell BK101.out 2).trans rfl, ((HB.out.cell (blt_ hw102_0)).trans hw102_0), ((HB.out.cell (blt_ hw102_1)).trans hw102_1), ((HB.out.cell (blt_ hw102_2)).trans hw102_2), ((HB.out.cell (blt_ hw102_3)).trans hw102_3), ((HB.out.cell (blt_ hw102_4)).trans hw102_4), ((HB.out.cell (blt_ hw103_0)).trans hw103_0), ((HB.out.cell (blt_ hw103_1)).trans hw103_1), ((HB.out.cell (blt_ hw103_2)).trans hw103_2), ((HB.out.cell (blt_ hw103_3)).trans hw103_3), ((HB.out.cell (blt_ hw103_4)).trans hw103_4)⟩ (fun hHeld => ?_)
       clear hK K
       refine norm_ (a' := ?_) ?_ ?_
       rotate_left
       ·show Act.put _ (some 25) _ = _
        simp only [Act.put, sA, sZ, sS, i64_w, i32_w]
        rfl
       refine pure_ (i := 13) (N := some 26) (v := ?_) (a' := ?_) (bl 15 16383) rfl rfl (any_of HT_.out (by kernel_rfl)) (fun _ _ _ h => h) (Or.inl ⟨by rfl, ?_⟩) ?_ ?_
       rotate_left
       ·intro w'
        go_simp
        with_reducible rfl
       rotate_left
       ·simp only [Act.put, sA, sZ, sS, i64_w, i32_w]
        rfl
       refine pure_ (i := 14) (N := some 27) (v := ?_) (a' := ?_) (bl 15 32767) rfl rfl (any_of HT_.out (by kernel_rfl)) (fun _ _ _ h => h) (Or.inl ⟨by rfl, ?_⟩) ?_ ?_
       rotate_left
       ·intro w'
        go_simp
        with_reducible rfl
       rotate_left
       ·simp only [Act.put, sA, sZ, sS, i64_w, i32_w]
        rfl
       refine done_ (done_of HT_.out (by kernel_rfl)) ?_
       try go_wp2
       go_roundg k1
       case measure => have := HK1.out; omega
       case rel => exact ⟨(wrap64 (x6_1 + 1)), (by first | rfl | (simp; done) | (simp [*]; done)), H', ⟨by have := HK1.out; omega⟩, ⟨by (with_reducible repeat (first | refine bN ?_ _ | refine bD ?_ | refine bA ?_ _)); exact BK101.out⟩, ⟨by repeat (first | (with_reducible first | exact HB.out | apply lA | apply lN | apply lD | refine lS ?_ GE101.out) | exact HB.out)⟩⟩
      ·replace c9 := Bool.eq_false_iff.mpr c9
       subst c9
       have H1 : (some ((rd_T45 l1 x6_1).name, true)) = some (r1, r2) := by rw [if_neg (show ¬ (false = true) by decide)] at H; exact H
       clear H
       have H := H1
       clear H1
       simp only [Option.some.injEq, Prod.mk.injEq] at H
       obtain ⟨rfl, rfl⟩ := H
       try go_wp2
       replace BK101 := am (blk_drew BK101.out)
       replace HB := am (below_drew1 HB.out)
       have p102 : 0 ≤ (x6_1 : Int) := of_decide_eq_true (by first | (with_reducible assumption) | assumption)
       have q102 : x6_1 < (l1.length : Int) := of_decide_eq_true (by first | (with_reducible assumption) | assumption)
       obtain ⟨ad102, e102, hx102_0, hx102_1, hx102_2, hx102_3, hx102_4⟩ := at_T45 HR1.out x6_1 p102 q102
       have hw102_4 := hx102_4
       have hw102_3 := hx102_3
       have hw102_2 := hx102_2
       have hw102_1 := hx102_1
       have hw102_0 := hx102_0
       (try rw [← Nbq6.out] at hx102_0)
       (try rw [← Nbq6.out] at hw102_0)
       (try rw [← Nbq6.out] at hx102_2)
       (try rw [← Nbq6.out] at hw102_2)
       cases e102
       replace hx102_0 := (HB.out.cell (blt_ hx102_0)).trans hx102_0
       replace hx102_1 := (HB.out.cell (blt_ hx102_1)).trans hx102_1
       replace hx102_2 := (HB.out.cell (blt_ hx102_2)).trans hx102_2
       replace hx102_3 := (HB.out.cell (blt_ hx102_3)).trans hx102_3
       replace hx102_4 := (HB.out.cell (blt_ hx102_4)).trans hx102_4
       replace p102 := eq_true p102
       replace q102 := eq_true q102
       have p103 : 0 ≤ (x6_1 : Int) := of_decide_eq_true (by first | (with_reducible assumption) | assumption)
       have q103 : x6_1 < (l1.length : Int) := of_decide_eq_true (by first | (with_reducible assumption) | assumption)
       obtain ⟨ad103, e103, hx103_0, hx103_1, hx103_2, hx103_3, hx103_4⟩ := at_T45 HR1.out x6_1 p103 q103
       have hw103_4 := hx103_4
       have hw103_3 := hx103_3
       have hw103_2 := hx103_2
       have hw103_1 := hx103_1
       have hw103_0 := hx103_0
       (try rw [← Nbq6.out] at hx103_0)
       (try rw [← Nbq6.out] at hw103_0)
       (try rw [← Nbq6.out] at hx103_2)
       (try rw [← Nbq6.out] at hw103_2)
       obtain rfl : ad102 = ad103 := (by injection e103)
       replace hx103_0 := (HB.out.cell (blt_ hx103_0)).trans hx103_0
       replace hx103_1 := (HB.out.cell (blt_ hx103_1)).trans hx103_1
       replace hx103_2 := (HB.out.cell (blt_ hx103_2)).trans hx103_2
       replace hx103_3 := (HB.out.cell (blt_ hx103_3)).trans hx103_3
       replace hx103_4 := (HB.out.cell (blt_ hx103_4)).trans hx103_4
       replace p103 := eq_true p103
       replace q103 := eq_true q103
       refine start_ (n := 15) (S := fun w' => w'.cell? ⟨gb101, 0, none⟩ = some (.string a0_0) ∧ w'.cell? ⟨gb101, 1, none⟩ = some (.slice A0_1 l0_1.length c0_1) ∧ w'.cell? ⟨gb101, 2, none⟩ = some (.slice A0_2 l0_2.length c0_2) ∧ w'.cell? (ad102.add ((x6_1).toNat * 5)) = some (.bool true) ∧ w'.cell? ⟨(ad102.add ((x6_1).toNat * 5)).block, (ad102.add ((x6_1).toNat * 5)).off + 1, none⟩ = some (.string ((rd_T45 l1 x6_1).name)) ∧ w'.cell? ⟨(ad102.add ((x6_1).toNat * 5)).block, (ad102.add ((x6_1).toNat * 5)).off + 2, none⟩ = some (.bool ((rd_T45 l1 x6_1).val.isSym)) ∧ w'.cell? ⟨(ad102.add ((x6_1).toNat * 5)).block, (ad102.add ((x6_1).toNat * 5)).off + 3, none⟩ = some (.string ((rd_T45 l1 x6_1).val.sym)) ∧ w'.cell? ⟨(ad102.add ((x6_1).toNat * 5)).block, (ad102.add ((x6_1).toNat * 5)).off + 4, none⟩ = some (.int .i64 ((rd_T45 l1 x6_1).val.n)) ∧ w'.cell? (ad102.add ((x6_1).toNat * 5)) = some (.bool (true)) ∧ w'.cell? ⟨(ad102.add ((x6_1).toNat * 5)).block, (ad102.add ((x6_1).toNat * 5)).off + 1, none⟩ = some (.string ((rd_T45 l1 x6_1).name)) ∧ w'.cell? ⟨(ad102.add ((x6_1).toNat * 5)).block, (ad102.add ((x6_1).toNat * 5)).off + 2, none⟩ = some (.bool ((rd_T45 l1 x6_1).val.isSym)) ∧ w'.cell? ⟨(ad102.add ((x6_1).toNat * 5)).block, (ad102.add ((x6_1).toNat * 5)).off + 3, none⟩ = some (.string ((rd_T45 l1 x6_1).val.sym)) ∧ w'.cell? ⟨(ad102.add ((x6_1).toNat * 5)).block, (ad102.add ((x6_1).toNat * 5)).off + 4, none⟩ = some (.int .i64 ((rd_T45 l1 x6_1).val.n))) (ds := []) (bl 15 0) (by kernel_rfl) rfl rfl ⟨(blk_cell BK101.out 0).trans rfl, (blk_cell BK101.out 1).trans rfl, (blk_cell BK101.out 2).trans rfl, ((HB.out.cell (blt_ hw102_0)).trans hw102_0), ((HB.out.cell (blt_ hw102_1)).trans hw102_1), ((HB.out.cell (blt_ hw102_2)).trans hw102_2), ((HB.out.cell (blt_ hw102_3)).trans hw102_3), ((HB.out.cell (blt_ hw102_4)).trans hw102_4), ((HB.out.cell (blt_ hw103_0)).trans hw103_0), ((HB.out.cell (blt_ hw103_1)).trans hw103_1), ((HB.out.cell (blt_ hw103_2)).trans hw103_2), ((HB.out.cell (blt_ hw103_3)).trans hw103_3), ((HB.out.cell (blt_ hw103_4)).trans hw103_4)⟩ (fun hHeld => ?_); refine with_tabW lambrequinref09_loose.tab4 lambrequinref09_loose.bits4 (fun HT_ HW_ => ?_)
       generalize wr.drew = w12 at BK101 HB hx102_0 hx102_1 hx102_2 hx102_3 hx102_4 hx103_0 hx103_1 hx103_2 hx103_3 hx103_4 hHeld ⊢
       refine pure_ (i := 0) (N := some 13) (v := ?_) (a' := ?_) (bl 15 1) rfl rfl (any_of HT_.out (by kernel_rfl)) (fun _ _ _ h => h) (Or.inl ⟨by rfl, ?_⟩) ?_ ?_
       rotate_left
       ·intro w'
        go_simp
        with_reducible rfl
       rotate_left
       ·simp only [Act.put, sA, sZ, sS, i64_w, i32_w]
        rfl
       refine pure_ (i := 1) (N := some 14) (v := ?_) (a' := ?_) (bl 15 3) rfl rfl (any_of HT_.out (by kernel_rfl)) (fun _ _ _ h => h) (Or.inl ⟨by rfl, ?_⟩) ?_ ?_
       rotate_left
       ·intro w'
        go_simp
        with_reducible rfl
       rotate_left
       ·simp only [Act.put, sA, sZ, sS, i64_w, i32_w]
        rfl
       refine pure_ (i := 2) (N := some 15) (v := ?_) (a' := ?_) (bl 15 7) rfl rfl (any_of HT_.out (by kernel_rfl)) (fun _ _ _ h => h) (Or.inl ⟨by rfl, ?_⟩) ?_ ?_
       rotate_left
       ·intro w'
        go_simp
        with_reducible rfl
       rotate_left
       ·simp only [Act.put, sA, sZ, sS, i64_w, i32_w]
        rfl
       refine pure_ (i := 3) (N := some 16) (v := ?_) (a' := ?_) (bl 15 15) rfl rfl (any_of HT_.out (by kernel_rfl)) (fun _ _ _ h => h) (Or.inl ⟨by rfl, ?_⟩) ?_ ?_
       rotate_left
       ·intro w'
        go_simp
        with_reducible rfl
       rotate_left
       ·simp only [Act.put, sA, sZ, sS, i64_w, i32_w]
        rfl
       refine take_ (i := 4) (N := some 17) (v := ?_) (a' := ?_) (bl 15 31) rfl rfl (take_ofW HT_.out HW_.out (by kernel_rfl)) (fun _ _ _ h => h) (Or.inl ⟨by rfl, ?_⟩) hHeld ?_ ?_
       rotate_left
       ·rintro w' ⟨s0, s1, s2, s3, s4, s5, s6, s7, s8, s9, s10, s11, s12⟩
        go_simp
        with_reducible rfl
       rotate_left
       ·simp only [Act.put, sA, sZ, sS, i64_w, i32_w]
        rfl
       refine pure_ (i := 5) (N := some 18) (v := ?_) (a' := ?_) (bl 15 63) rfl rfl (any_of HT_.out (by kernel_rfl)) (fun _ _ _ h => h) (Or.inl ⟨by rfl, ?_⟩) ?_ ?_
       rotate_left
       ·intro w'
        go_simp
        with_reducible rfl
       rotate_left
       ·simp only [Act.put, sA, sZ, sS, i64_w, i32_w]
        rfl
       refine pure_ (i := 7) (N := some 20) (v := ?_) (a' := ?_) (bl 15 191) rfl rfl (any_of HT_.out (by kernel_rfl)) (fun _ _ _ h => h) (Or.inl ⟨by rfl, ?_⟩) ?_ ?_
       rotate_left
       ·intro w'
        go_simp
        with_reducible rfl
       rotate_left
       ·simp only [Act.put, sA, sZ, sS, i64_w, i32_w]
        rfl
       refine pure_ (i := 8) (N := some 21) (v := ?_) (a' := ?_) (bl 15 447) rfl rfl (any_of HT_.out (by kernel_rfl)) (fun _ _ _ h => h) (Or.inl ⟨by rfl, ?_⟩) ?_ ?_
       rotate_left
       ·intro w'
        go_simp
        with_reducible rfl
       rotate_left
       ·simp only [Act.put, sA, sZ, sS, i64_w, i32_w]
        rfl
       refine pure_ (i := 9) (N := some 22) (v := ?_) (a' := ?_) (bl 15 959) rfl rfl (any_of HT_.out (by kernel_rfl)) (fun _ _ _ h => h) (Or.inl ⟨by rfl, ?_⟩) ?_ ?_
       rotate_left
       ·intro w'
        go_simp
        with_reducible rfl
       rotate_left
       ·simp only [Act.put, sA, sZ, sS, i64_w, i32_w]
        rfl
       refine pure_ (i := 10) (N := some 23) (v := ?_) (a' := ?_) (bl 15 1983) rfl rfl (any_of HT_.out (by kernel_rfl)) (fun _ _ _ h => h) (Or.inl ⟨by rfl, ?_⟩) ?_ ?_
       rotate_left
       ·intro w'
        go_simp
        with_reducible rfl
       rotate_left
       ·simp only [Act.put, sA, sZ, sS, i64_w, i32_w]
        rfl
       refine take_ (i := 6) (N := some 19) (v := ?_) (a' := ?_) (bl 15 2047) rfl rfl (take_ofW HT_.out HW_.out (by kernel_rfl)) (fun _ _ _ h => h) (Or.inl ⟨by rfl, ?_⟩) hHeld ?_ ?_
       rotate_left
       ·rintro w' ⟨s0, s1, s2, s3, s4, s5, s6, s7, s8, s9, s10, s11, s12⟩
        go_simp
        with_reducible rfl
       rotate_left
       ·simp only [Act.put, sA, sZ, sS, i64_w, i32_w]
        rfl
       refine take_ (i := 11) (N := some 24) (v := ?_) (a' := ?_) (bl 15 4095) rfl rfl (take_ofW HT_.out HW_.out (by kernel_rfl)) (fun _ _ _ h => h) (Or.inl ⟨by rfl, ?_⟩) hHeld ?_ ?_
       rotate_left
       ·rintro w' ⟨s0, s1, s2, s3, s4, s5, s6, s7, s8, s9, s10, s11, s12⟩
        go_simp
        with_reducible rfl
       rotate_left
       ·simp only [Act.put, sA, sZ, sS, i64_w, i32_w]
        rfl
       refine one_ (i := 12) (N := some 25) (bl 15 8191) rfl rfl (one_of HT_.out (by kernel_rfl)) (by decide) (fun K hK => ?_)
       refine goes_ Try.func27 (by kernel_rfl) rfl #[.agg #[.string a0_0, .slice A0_1 l0_1.length c0_1, .slice A0_2 l0_2.length c0_2], .string ((rd_T45 l1 x6_1).name)] (by rfl) rfl rfl (by (try simp only [List.map_toArray, List.map_cons, List.map_nil]); first | done | rfl | (simp only [List.length_drop, List.length_take]; rfl)) ?_
       with_reducible refine (lambrequinref09_Binds.calls k1 a0_0 _ _ l0_1 _ _ l0_2 ((rd_T45 l1 x6_1).name) false _ ?side1 ?side2 ?side3 ?side4 A8.out).mono ?_
       (case side1 => repeat (first | exact (Kd.C_below HR0_1.out HB.out) | (with_reducible refine Kd.C_alloc ?_ _) | (with_reducible refine Kd.C_drewN ?_ _) | (with_reducible refine Kd.C_drew ?_)))
       (case side2 => exact HC0_1.out)
       (case side3 => repeat (first | exact (Kd.C_below HR0_2.out HB.out) | (with_reducible refine Kd.C_alloc ?_ _) | (with_reducible refine Kd.C_drewN ?_ _) | (with_reducible refine Kd.C_drew ?_)))
       (case side4 => exact HC0_2.out)
       rintro e w13 ⟨rfl, hb⟩
       refine ⟨_, rfl, ?_⟩
       replace BK101 := am (blk_below (g := gb101) (o := .cells #[.string a0_0, .slice A0_1 l0_1.length c0_1, .slice A0_2 l0_2.length c0_2] 27 (0, 0)) (by (with_reducible repeat (first | refine bN ?_ _ | refine bD ?_ | refine bA ?_ _)); exact BK101.out) hb)
       replace HB := am (below_step (by repeat (first | (with_reducible first | exact HB.out | apply lA | apply lN | apply lD | refine lS ?_ GE101.out) | exact HB.out)) hb)
       (try clear hb)
       (try clear hb2)
       (try clear hk)
       (try clear hi)
       refine hK.out _ _ ⟨(blk_cell BK101.out 0).trans rfl, (blk_cell BK101.out 1).trans rfl, (blk_cell BK101.out 2).trans rfl, ((HB.out.cell (blt_ hw102_0)).trans hw102_0), ((HB.out.cell (blt_ hw102_1)).trans hw102_1), ((HB.out.cell (blt_ hw102_2)).trans hw102_2), ((HB.out.cell (blt_ hw102_3)).trans hw102_3), ((HB.out.cell (blt_ hw102_4)).trans hw102_4), ((HB.out.cell (blt_ hw103_0)).trans hw103_0), ((HB.out.cell (blt_ hw103_1)).trans hw103_1), ((HB.out.cell (blt_ hw103_2)).trans hw103_2), ((HB.out.cell (blt_ hw103_3)).trans hw103_3), ((HB.out.cell (blt_ hw103_4)).trans hw103_4)⟩ (fun hHeld => ?_)
       clear hK K
       refine norm_ (a' := ?_) ?_ ?_
       rotate_left
       ·show Act.put _ (some 25) _ = _
        simp only [Act.put, sA, sZ, sS, i64_w, i32_w]
        rfl
       refine pure_ (i := 13) (N := some 26) (v := ?_) (a' := ?_) (bl 15 16383) rfl rfl (any_of HT_.out (by kernel_rfl)) (fun _ _ _ h => h) (Or.inl ⟨by rfl, ?_⟩) ?_ ?_
       rotate_left
       ·intro w'
        go_simp
        with_reducible rfl
       rotate_left
       ·simp only [Act.put, sA, sZ, sS, i64_w, i32_w]
        rfl
       refine pure_ (i := 14) (N := some 27) (v := ?_) (a' := ?_) (bl 15 32767) rfl rfl (any_of HT_.out (by kernel_rfl)) (fun _ _ _ h => h) (Or.inl ⟨by rfl, ?_⟩) ?_ ?_
       rotate_left
       ·intro w'
        go_simp
        with_reducible rfl
       rotate_left
       ·simp only [Act.put, sA, sZ, sS, i64_w, i32_w]
        rfl
       refine done_ (done_of HT_.out (by kernel_rfl)) ?_
       have p105 : 0 ≤ (x6_1 : Int) := of_decide_eq_true (by first | (with_reducible assumption) | assumption)
       have q105 : x6_1 < (l1.length : Int) := of_decide_eq_true (by first | (with_reducible assumption) | assumption)
       obtain ⟨ad105, e105, hx105_0, hx105_1, hx105_2, hx105_3, hx105_4⟩ := at_T45 HR1.out x6_1 p105 q105
       (try rw [← Nbq6.out] at hx105_0)
       (try rw [← Nbq6.out] at hx105_2)
       obtain rfl : ad102 = ad105 := (by injection e105)
       replace hx105_0 := (HB.out.cell (blt_ hx105_0)).trans hx105_0
       replace hx105_1 := (HB.out.cell (blt_ hx105_1)).trans hx105_1
       replace hx105_2 := (HB.out.cell (blt_ hx105_2)).trans hx105_2
       replace hx105_3 := (HB.out.cell (blt_ hx105_3)).trans hx105_3
       replace hx105_4 := (HB.out.cell (blt_ hx105_4)).trans hx105_4
       replace p105 := eq_true p105
       replace q105 := eq_true q105
       try go_wp2
       go_ret2
       exact ⟨by first | rfl | (simp [errW_none, errW_some] <;> rfl) | (simp [*, errW_none, errW_some] <;> rfl), by repeat (first | (with_reducible first | exact HB.out | apply lA | apply lN | apply lD | refine lS ?_ GE101.out) | exact HB.out)⟩
     ·replace c7 := Bool.eq_false_iff.mpr c7
      subst c7
      have H1 : (lambrequinref09_loose.l0 k1 l1 (wrap64 (x6_1 + 1)) a0_0 l0_1 l0_2) = some (r1, r2) := by rw [if_neg (show ¬ (false = true) by decide)] at H; exact H
      clear H
      have H := H1
      clear H1
      have H' := am H
      clear H
      try go_wp2
      replace BK101 := am (blk_drew BK101.out)
      replace HB := am (below_drew1 HB.out)
      have p102 : 0 ≤ (x6_1 : Int) := of_decide_eq_true (by first | (with_reducible assumption) | assumption)
      have q102 : x6_1 < (l1.length : Int) := of_decide_eq_true (by first | (with_reducible assumption) | assumption)
      obtain ⟨ad102, e102, hx102_0, hx102_1, hx102_2, hx102_3, hx102_4⟩ := at_T45 HR1.out x6_1 p102 q102
      have hw102_4 := hx102_4
      have hw102_3 := hx102_3
      have hw102_2 := hx102_2
      have hw102_1 := hx102_1
      have hw102_0 := hx102_0
      (try rw [← Nbq6.out] at hx102_0)
      (try rw [← Nbq6.out] at hw102_0)
      (try rw [← Nbq6.out] at hx102_2)
      (try rw [← Nbq6.out] at hw102_2)
      cases e102
      replace hx102_0 := (HB.out.cell (blt_ hx102_0)).trans hx102_0
      replace hx102_1 := (HB.out.cell (blt_ hx102_1)).trans hx102_1
      replace hx102_2 := (HB.out.cell (blt_ hx102_2)).trans hx102_2
      replace hx102_3 := (HB.out.cell (blt_ hx102_3)).trans hx102_3
      replace hx102_4 := (HB.out.cell (blt_ hx102_4)).trans hx102_4
      replace p102 := eq_true p102
      replace q102 := eq_true q102
      refine start_ (n := 15) (S := fun w' => w'.cell? (ad102.add ((x6_1).toNat * 5)) = some (.bool false) ∧ w'.cell? ⟨(ad102.add ((x6_1).toNat * 5)).block, (ad102.add ((x6_1).toNat * 5)).off + 1, none⟩ = some (.string ((rd_T45 l1 x6_1).name)) ∧ w'.cell? ⟨(ad102.add ((x6_1).toNat * 5)).block, (ad102.add ((x6_1).toNat * 5)).off + 2, none⟩ = some (.bool ((rd_T45 l1 x6_1).val.isSym)) ∧ w'.cell? ⟨(ad102.add ((x6_1).toNat * 5)).block, (ad102.add ((x6_1).toNat * 5)).off + 3, none⟩ = some (.string ((rd_T45 l1 x6_1).val.sym)) ∧ w'.cell? ⟨(ad102.add ((x6_1).toNat * 5)).block, (ad102.add ((x6_1).toNat * 5)).off + 4, none⟩ = some (.int .i64 ((rd_T45 l1 x6_1).val.n))) (ds := []) (bl 15 0) (by kernel_rfl) rfl rfl ⟨((HB.out.cell (blt_ hw102_0)).trans hw102_0), ((HB.out.cell (blt_ hw102_1)).trans hw102_1), ((HB.out.cell (blt_ hw102_2)).trans hw102_2), ((HB.out.cell (blt_ hw102_3)).trans hw102_3), ((HB.out.cell (blt_ hw102_4)).trans hw102_4)⟩ (fun hHeld => ?_); refine with_tabW lambrequinref09_loose.tab4 lambrequinref09_loose.bits4 (fun HT_ HW_ => ?_)
      generalize wr.drew = w14 at BK101 HB hx102_0 hx102_1 hx102_2 hx102_3 hx102_4 hHeld ⊢
      refine pure_ (i := 0) (N := some 13) (v := ?_) (a' := ?_) (bl 15 1) rfl rfl (any_of HT_.out (by kernel_rfl)) (fun _ _ _ h => h) (Or.inl ⟨by rfl, ?_⟩) ?_ ?_
      rotate_left
      ·intro w'
       go_simp
       with_reducible rfl
      rotate_left
      ·simp only [Act.put, sA, sZ, sS, i64_w, i32_w]
       rfl
      refine pure_ (i := 1) (N := some 14) (v := ?_) (a' := ?_) (bl 15 3) rfl rfl (any_of HT_.out (by kernel_rfl)) (fun _ _ _ h => h) (Or.inl ⟨by rfl, ?_⟩) ?_ ?_
      rotate_left
      ·intro w'
       go_simp
       with_reducible rfl
      rotate_left
      ·simp only [Act.put, sA, sZ, sS, i64_w, i32_w]
       rfl
      refine pure_ (i := 2) (N := some 15) (v := ?_) (a' := ?_) (bl 15 7) rfl rfl (any_of HT_.out (by kernel_rfl)) (fun _ _ _ h => h) (Or.inl ⟨by rfl, ?_⟩) ?_ ?_
      rotate_left
      ·intro w'
       go_simp
       with_reducible rfl
      rotate_left
      ·simp only [Act.put, sA, sZ, sS, i64_w, i32_w]
       rfl
      refine pure_ (i := 3) (N := some 16) (v := ?_) (a' := ?_) (bl 15 15) rfl rfl (any_of HT_.out (by kernel_rfl)) (fun _ _ _ h => h) (Or.inl ⟨by rfl, ?_⟩) ?_ ?_
      rotate_left
      ·intro w'
       go_simp
       with_reducible rfl
      rotate_left
      ·simp only [Act.put, sA, sZ, sS, i64_w, i32_w]
       rfl
      refine take_ (i := 4) (N := some 17) (v := ?_) (a' := ?_) (bl 15 31) rfl rfl (take_ofW HT_.out HW_.out (by kernel_rfl)) (fun _ _ _ h => h) (Or.inl ⟨by rfl, ?_⟩) hHeld ?_ ?_
      rotate_left
      ·rintro w' ⟨s0, s1, s2, s3, s4⟩
       go_simp
       with_reducible rfl
      rotate_left
      ·simp only [Act.put, sA, sZ, sS, i64_w, i32_w]
       rfl
      refine pure_ (i := 5) (N := some 18) (v := ?_) (a' := ?_) (bl 15 63) rfl rfl (any_of HT_.out (by kernel_rfl)) (fun _ _ _ h => h) (Or.inl ⟨by rfl, ?_⟩) ?_ ?_
      rotate_left
      ·intro w'
       go_simp
       with_reducible rfl
      rotate_left
      ·simp only [Act.put, sA, sZ, sS, i64_w, i32_w]
       rfl
      refine pure_ (i := 6) (N := some 19) (v := undef) (a' := ?_) (bl 15 127) rfl rfl (any_of HT_.out (by kernel_rfl)) (fun _ _ _ h => h) (Or.inr ⟨by rfl, rfl⟩) ?_ ?_
      rotate_left
      ·simp only [Act.put, sA, sZ, sS, i64_w, i32_w]
       rfl
      refine pure_ (i := 7) (N := some 20) (v := undef) (a' := ?_) (bl 15 255) rfl rfl (any_of HT_.out (by kernel_rfl)) (fun _ _ _ h => h) (Or.inr ⟨by rfl, rfl⟩) ?_ ?_
      rotate_left
      ·simp only [Act.put, sA, sZ, sS, i64_w, i32_w]
       rfl
      refine pure_ (i := 8) (N := some 21) (v := undef) (a' := ?_) (bl 15 511) rfl rfl (any_of HT_.out (by kernel_rfl)) (fun _ _ _ h => h) (Or.inr ⟨by rfl, rfl⟩) ?_ ?_
      rotate_left
      ·simp only [Act.put, sA, sZ, sS, i64_w, i32_w]
       rfl
      refine pure_ (i := 9) (N := some 22) (v := undef) (a' := ?_) (bl 15 1023) rfl rfl (any_of HT_.out (by kernel_rfl)) (fun _ _ _ h => h) (Or.inr ⟨by rfl, rfl⟩) ?_ ?_
      rotate_left
      ·simp only [Act.put, sA, sZ, sS, i64_w, i32_w]
       rfl
      refine pure_ (i := 10) (N := some 23) (v := undef) (a' := ?_) (bl 15 2047) rfl rfl (any_of HT_.out (by kernel_rfl)) (fun _ _ _ h => h) (Or.inr ⟨by rfl, rfl⟩) ?_ ?_
      rotate_left
      ·simp only [Act.put, sA, sZ, sS, i64_w, i32_w]
       rfl
      refine pure_ (i := 11) (N := some 24) (v := undef) (a' := ?_) (bl 15 4095) rfl rfl (any_of HT_.out (by kernel_rfl)) (fun _ _ _ h => h) (Or.inr ⟨by rfl, rfl⟩) ?_ ?_
      rotate_left
      ·simp only [Act.put, sA, sZ, sS, i64_w, i32_w]
       rfl
      refine pure_ (i := 12) (N := some 25) (v := undef) (a' := ?_) (bl 15 8191) rfl rfl (any_of HT_.out (by kernel_rfl)) (fun _ _ _ h => h) (Or.inr ⟨by rfl, rfl⟩) ?_ ?_
      rotate_left
      ·simp only [Act.put, sA, sZ, sS, i64_w, i32_w]
       rfl
      refine pure_ (i := 13) (N := some 26) (v := undef) (a' := ?_) (bl 15 16383) rfl rfl (any_of HT_.out (by kernel_rfl)) (fun _ _ _ h => h) (Or.inr ⟨by rfl, rfl⟩) ?_ ?_
      rotate_left
      ·simp only [Act.put, sA, sZ, sS, i64_w, i32_w]
       rfl
      refine pure_ (i := 14) (N := some 27) (v := ?_) (a' := ?_) (bl 15 32767) rfl rfl (any_of HT_.out (by kernel_rfl)) (fun _ _ _ h => h) (Or.inl ⟨by rfl, ?_⟩) ?_ ?_
      rotate_left
      ·intro w'
       go_simp
       with_reducible rfl
      rotate_left
      ·simp only [Act.put, sA, sZ, sS, i64_w, i32_w]
       rfl
      refine done_ (done_of HT_.out (by kernel_rfl)) ?_
      try go_wp2
      go_roundg k1
      case measure => have := HK1.out; omega
      case rel => exact ⟨(wrap64 (x6_1 + 1)), (by first | rfl | (simp; done) | (simp [*]; done)), H', ⟨by have := HK1.out; omega⟩, ⟨by (with_reducible repeat (first | refine bN ?_ _ | refine bD ?_ | refine bA ?_ _)); exact BK101.out⟩, ⟨by repeat (first | (with_reducible first | exact HB.out | apply lA | apply lN | apply lD | refine lS ?_ GE101.out) | exact HB.out)⟩⟩
    ·rw [if_neg c5] at H
     exact absurd H (by simp)
   ·rw [if_neg c4] at H
    have c4b0 : decide (x6_1 < (l1.length : Int)) = false := decide_eq_false c4
    clear c4
    simp only [Option.some.injEq, Prod.mk.injEq] at H
    obtain ⟨rfl, rfl⟩ := H
    go_wp2
    go_ret2
    exact ⟨by first | rfl | (simp [errW_none, errW_some] <;> rfl) | (simp [*, errW_none, errW_some] <;> rfl), by repeat (first | (with_reducible first | exact HB.out | apply lA | apply lN | apply lD | refine lS ?_ GE101.out) | exact HB.out)⟩
end Go.Proofs.Ythpejcnldecmoaa.H
namespace Go.Proofs.Ythpejcnldecmoaa.H
open Go.RowKit Go.Proofs.YthpejcnldecmoaaW.PrintWords Go.Proofs.YthpejcnldecmoaaW.PrintLast Go.Proofs.YthpejcnldecmoaaW.PrintMore
attribute [local go_sem] max2_int min2_int max_two min_two max_three min_three max_four min_four
set_option linter.unusedVariables false
set_option linter.unusedSimpArgs false
def lambrequinref09_Check.l0 : Nat → Int → ByteArray → List (Term) → List (Liter) → Option (ByteArray × Int × Int)
 | 0, _, _, _, _ => none
 | k + 1, x7, x102000, x102001, x102002 => if x7 < (x102002.length : Int) then (if 0 ≤ x7 then (if ((rd_T47 x102002 x7).kind) = 2 then ((lambrequinref09_loose.f k x102000 x102001 x102002 ((rd_T47 x102002 x7).atom.args)).bind fun bt109 => (if bt109.2 = true then (some (bt109.1, x7, 6)) else (lambrequinref09_Check.l0 k (wrap64 (x7 + 1)) x102000 x102001 x102002))) else (if ((rd_T47 x102002 x7).kind) = 3 then ((lambrequinref09_loose.f k x102000 x102001 x102002 (([(⟨(rd_T47 x102002 x7).l.isVar, (rd_T47 x102002 x7).l.name, (⟨(rd_T47 x102002 x7).l.val.isSym, (rd_T47 x102002 x7).l.val.sym, (rd_T47 x102002 x7).l.val.n⟩ : Val)⟩ : Term), (⟨(rd_T47 x102002 x7).r.isVar, (rd_T47 x102002 x7).r.name, (⟨(rd_T47 x102002 x7).r.val.isSym, (rd_T47 x102002 x7).r.val.sym, (rd_T47 x102002 x7).r.val.n⟩ : Val)⟩ : Term)] : List (Term)))).bind fun bt111 => (if bt111.2 = true then (some (bt111.1, x7, 6)) else (lambrequinref09_Check.l0 k (wrap64 (x7 + 1)) x102000 x102001 x102002))) else (lambrequinref09_Check.l0 k (wrap64 (x7 + 1)) x102000 x102001 x102002))) else (none)) else (some ((⟨#[]⟩ : ByteArray), 0, 0))
def lambrequinref09_Check.f (k : Nat) (a0_0 : ByteArray) (l0_1 : List (Term)) (l0_2 : List (Liter)) : Option (ByteArray × Int × Int) := (lambrequinref09_loose.f k a0_0 l0_1 l0_2 l0_1).bind fun bt102 => (if bt102.2 = true then (some (bt102.1, (-1), 6)) else (lambrequinref09_Check.l0 k 0 a0_0 l0_1 l0_2))
theorem lambrequinref09_Check.mono_l : ∀ k, (∀ y0 y1 y2 y3, LeO (lambrequinref09_Check.l0 k y0 y1 y2 y3) (lambrequinref09_Check.l0 (k + 1) y0 y1 y2 y3))
 | 0 => fun _ _ _ _ r h => by simp [lambrequinref09_Check.l0] at h
 | k + 1 => by
  have ih0 := lambrequinref09_Check.mono_l k
  ·intro y0 y1 y2 y3
   unfold lambrequinref09_Check.l0
   repeat' first
   | (with_reducible exact ih0 _ _ _ _)
   | (with_reducible exact lambrequinref09_loose.mono _ _ _ _ _)
   | (with_reducible exact LeO.refl _)
   | (with_reducible exact LeO.none _)
   | (with_reducible refine LeO.ite ?_ ?_)
   | (with_reducible refine LeO.bind ?_ (fun _ => ?_))
   | exact ih0 _ _ _ _
   | exact lambrequinref09_loose.mono _ _ _ _ _
   | exact LeO.none _
   | refine LeO.ite ?_ ?_
   | refine LeO.bind ?_ (fun _ => ?_)
theorem lambrequinref09_Check.mono : ∀ a0 a1 a2 k, LeO (lambrequinref09_Check.f k a0 a1 a2) (lambrequinref09_Check.f (k + 1) a0 a1 a2) := by
 intro a0 a1 a2 k
 have ih0 := lambrequinref09_Check.mono_l k
 unfold lambrequinref09_Check.f
 repeat' first
   | (with_reducible exact ih0 _ _ _ _)
   | (with_reducible exact lambrequinref09_loose.mono _ _ _ _ _)
   | (with_reducible exact LeO.refl _)
   | (with_reducible exact LeO.none _)
   | (with_reducible refine LeO.ite ?_ ?_)
   | (with_reducible refine LeO.bind ?_ (fun _ => ?_))
   | exact ih0 _ _ _ _
   | exact lambrequinref09_loose.mono _ _ _ _ _
   | exact LeO.none _
   | refine LeO.ite ?_ ?_
   | refine LeO.bind ?_ (fun _ => ?_)
set_option maxHeartbeats 8000000 in
set_option maxRecDepth 100000 in
theorem lambrequinref09_Check.calls (k : Nat) (a0_0 : ByteArray) (A0_1 : Option Addr) (c0_1 : Nat) (l0_1 : List (Term)) (A0_2 : Option Addr) (c0_2 : Nat) (l0_2 : List (Liter)) (r1 : ByteArray) (r2 : Int) (r3 : Int) (w : World) (hr0_1 : Kd.C k45 w A0_1 l0_1.length l0_1) (hc0_1 : l0_1.length ≤ c0_1) (hr0_2 : Kd.C k47 w A0_2 l0_2.length l0_2) (hc0_2 : l0_2.length ≤ c0_2) (h : lambrequinref09_Check.f k a0_0 l0_1 l0_2 = some (r1, r2, r3)) :
  Calls Try.prog 34 #[.agg #[.string a0_0, .slice A0_1 l0_1.length c0_1, .slice A0_2 l0_2.length c0_2]] w fun e w' => e = .returned (.tuple #[.string r1, .int .i64 r2, .int .i64 r3]) ∧ Below w.heap.size w w' := by
 have hu27 := Try.underlying27
 have hu47 := Try.underlying47
 have hu45 := Try.underlying45
 have HR0_1 := am hr0_1
 have HC0_1 := am hc0_1
 clear hr0_1 hc0_1
 have HR0_2 := am hr0_2
 have HC0_2 := am hc0_2
 clear hr0_2 hc0_2
 have HB := am (Below.refl w.heap.size w)
 have H : ((lambrequinref09_loose.f k a0_0 l0_1 l0_2 l0_1).bind fun bt102 => (if bt102.2 = true then (some (bt102.1, (-1), 6)) else (lambrequinref09_Check.l0 k 0 a0_0 l0_1 l0_2))) = some (r1, r2, r3) := h
 clear h
 replace H := Option.bind_eq_some_iff.mp H
 obtain ⟨⟨t102, t103⟩, A20, H⟩ := H
 replace H : (if t103 = true then (some (t102, (-1), 6)) else (lambrequinref09_Check.l0 k 0 a0_0 l0_1 l0_2)) = some (r1, r2, r3) := H
 have A2 := am A20
 clear A20
 by_cases c3 : t103 = true
 ·subst c3
  have H1 : (some (t102, (-1), 6)) = some (r1, r2, r3) := by rw [if_pos rfl] at H; exact H
  clear H
  have H := H1
  clear H1
  simp only [Option.some.injEq, Prod.mk.injEq] at H
  obtain ⟨rfl, rfl, rfl⟩ := H
  go_enter Try.func34, Try.ntmps34
  go_wp2_with (first | ((with_reducible refine gate_dst (N := 1) rfl ?_); refine box_event ?hg (N := 1) ?hd (cs := #[.string a0_0, .slice A0_1 l0_1.length c0_1, .slice A0_2 l0_2.length c0_2]) (t := 27) ?hr ?_; (case hd => rfl); (case hg => rfl); (case hr => first | (go_simp; done) | (go_simp; rfl)); intro gb101 hg w4 hbox hb; have BK101 := am (hbox); have GW101 := am ((by rw [hg]; exact (below_size (by repeat (first | (with_reducible first | exact HB.out | apply lA | apply lN | apply lD) | exact HB.out))) : w.heap.size ≤ gb101)); have GE101 := am ((by rw [hg]; exact (below_size (by repeat (first | (with_reducible first | exact HB.out | apply lA | apply lN | apply lD) | exact HB.out))) : w.heap.size ≤ gb101)); replace HB := am (below_step (by repeat (first | (with_reducible first | exact HB.out | apply lA | apply lN | apply lD) | exact HB.out)) hb); clear hb hbox hg; have hcz5_0 : w4.cell? ⟨gb101, 0, none⟩ = some (.string a0_0) := (blk_cell BK101.out 0).trans rfl; have hcz5_1 : w4.cell? ⟨gb101, 1, none⟩ = some (.slice A0_1 l0_1.length c0_1) := (blk_cell BK101.out 1).trans rfl; have hcz5_2 : w4.cell? ⟨gb101, 2, none⟩ = some (.slice A0_2 l0_2.length c0_2) := (blk_cell BK101.out 2).trans rfl; have hfz5_0 := blk_frozen BK101.out 0; have hfz5_1 := blk_frozen BK101.out 1; have hfz5_2 := blk_frozen BK101.out 2) | ((with_reducible refine gate_callee (f := 52) rfl ?_); refine goesL_ (some 17) rfl rfl Try.func52 (by kernel_rfl) rfl #[.agg #[.string a0_0, .slice A0_1 l0_1.length c0_1, .slice A0_2 l0_2.length c0_2], .slice A0_1 l0_1.length c0_1] rfl (by (try simp only [List.map_toArray, List.map_cons, List.map_nil]); first | done | rfl | (simp only [List.length_drop, List.length_take]; rfl)) ?_; (with_reducible refine (lambrequinref09_loose.calls k a0_0 _ _ l0_1 _ _ l0_2 _ _ l0_1 t102 true _ ?side1 ?side2 ?side3 ?side4 ?side5 ?side6 A2.out).mono ?_); (case side1 => repeat (first | exact (Kd.C_below HR0_1.out HB.out) | (with_reducible refine Kd.C_alloc ?_ _) | (with_reducible refine Kd.C_drewN ?_ _) | (with_reducible refine Kd.C_drew ?_))); (case side2 => exact HC0_1.out); (case side3 => repeat (first | exact (Kd.C_below HR0_2.out HB.out) | (with_reducible refine Kd.C_alloc ?_ _) | (with_reducible refine Kd.C_drewN ?_ _) | (with_reducible refine Kd.C_drew ?_))); (case side4 => exact HC0_2.out); (case side5 => repeat (first | exact (Kd.C_below HR0_1.out HB.out) | (with_reducible refine Kd.C_alloc ?_ _) | (with_reducible refine Kd.C_drewN ?_ _) | (with_reducible refine Kd.C_drew ?_))); (case side6 => exact HC0_1.out); rintro e w6 ⟨rfl, hb⟩; refine ⟨_, rfl, ?_⟩; replace BK101 := am (blk_below (g := gb101) (o := .cells #[.string a0_0, .slice A0_1 l0_1.length c0_1, .slice A0_2 l0_2.length c0_2] 27 (0, 0)) (by (with_reducible repeat (first | refine bN ?_ _ | refine bD ?_ | refine bA ?_ _)); exact BK101.out) hb); replace HB := am (below_step (by repeat (first | (with_reducible first | exact HB.out | apply lA | apply lN | apply lD | refine lS ?_ GE101.out) | exact HB.out)) hb); (try clear hb); (try clear hb2); (try clear hk); (try clear hi)))
  go_ret3
  exact ⟨by first | rfl | (simp [errW_none, errW_some] <;> rfl) | (simp [*, errW_none, errW_some] <;> rfl), by repeat (first | (with_reducible first | exact HB.out | apply lA | apply lN | apply lD | refine lS ?_ GE101.out) | exact HB.out)⟩
 ·replace c3 := Bool.eq_false_iff.mpr c3
  subst c3
  have H1 : (lambrequinref09_Check.l0 k 0 a0_0 l0_1 l0_2) = some (r1, r2, r3) := by rw [if_neg (show ¬ (false = true) by decide)] at H; exact H
  clear H
  have H := H1
  clear H1
  have H' := am H
  clear H
  go_enter Try.func34, Try.ntmps34
  go_wp2_with (first | ((with_reducible refine gate_dst (N := 1) rfl ?_); refine box_event ?hg (N := 1) ?hd (cs := #[.string a0_0, .slice A0_1 l0_1.length c0_1, .slice A0_2 l0_2.length c0_2]) (t := 27) ?hr ?_; (case hd => rfl); (case hg => rfl); (case hr => first | (go_simp; done) | (go_simp; rfl)); intro gb101 hg w7 hbox hb; have BK101 := am (hbox); have GW101 := am ((by rw [hg]; exact (below_size (by repeat (first | (with_reducible first | exact HB.out | apply lA | apply lN | apply lD) | exact HB.out))) : w.heap.size ≤ gb101)); have GE101 := am ((by rw [hg]; exact (below_size (by repeat (first | (with_reducible first | exact HB.out | apply lA | apply lN | apply lD) | exact HB.out))) : w.heap.size ≤ gb101)); replace HB := am (below_step (by repeat (first | (with_reducible first | exact HB.out | apply lA | apply lN | apply lD) | exact HB.out)) hb); clear hb hbox hg; have hcz8_0 : w7.cell? ⟨gb101, 0, none⟩ = some (.string a0_0) := (blk_cell BK101.out 0).trans rfl; have hcz8_1 : w7.cell? ⟨gb101, 1, none⟩ = some (.slice A0_1 l0_1.length c0_1) := (blk_cell BK101.out 1).trans rfl; have hcz8_2 : w7.cell? ⟨gb101, 2, none⟩ = some (.slice A0_2 l0_2.length c0_2) := (blk_cell BK101.out 2).trans rfl; have hfz8_0 := blk_frozen BK101.out 0; have hfz8_1 := blk_frozen BK101.out 1; have hfz8_2 := blk_frozen BK101.out 2) | ((with_reducible refine gate_callee (f := 52) rfl ?_); refine goesL_ (some 17) rfl rfl Try.func52 (by kernel_rfl) rfl #[.agg #[.string a0_0, .slice A0_1 l0_1.length c0_1, .slice A0_2 l0_2.length c0_2], .slice A0_1 l0_1.length c0_1] rfl (by (try simp only [List.map_toArray, List.map_cons, List.map_nil]); first | done | rfl | (simp only [List.length_drop, List.length_take]; rfl)) ?_; (with_reducible refine (lambrequinref09_loose.calls k a0_0 _ _ l0_1 _ _ l0_2 _ _ l0_1 t102 false _ ?side1 ?side2 ?side3 ?side4 ?side5 ?side6 A2.out).mono ?_); (case side1 => repeat (first | exact (Kd.C_below HR0_1.out HB.out) | (with_reducible refine Kd.C_alloc ?_ _) | (with_reducible refine Kd.C_drewN ?_ _) | (with_reducible refine Kd.C_drew ?_))); (case side2 => exact HC0_1.out); (case side3 => repeat (first | exact (Kd.C_below HR0_2.out HB.out) | (with_reducible refine Kd.C_alloc ?_ _) | (with_reducible refine Kd.C_drewN ?_ _) | (with_reducible refine Kd.C_drew ?_))); (case side4 => exact HC0_2.out); (case side5 => repeat (first | exact (Kd.C_below HR0_1.out HB.out) | (with_reducible refine Kd.C_alloc ?_ _) | (with_reducible refine Kd.C_drewN ?_ _) | (with_reducible refine Kd.C_drew ?_))); (case side6 => exact HC0_1.out); rintro e w9 ⟨rfl, hb⟩; refine ⟨_, rfl, ?_⟩; replace BK101 := am (blk_below (g := gb101) (o := .cells #[.string a0_0, .slice A0_1 l0_1.length c0_1, .slice A0_2 l0_2.length c0_2] 27 (0, 0)) (by (with_reducible repeat (first | refine bN ?_ _ | refine bD ?_ | refine bA ?_ _)); exact BK101.out) hb); replace HB := am (below_step (by repeat (first | (with_reducible first | exact HB.out | apply lA | apply lN | apply lD | refine lS ?_ GE101.out) | exact HB.out)) hb); (try clear hb); (try clear hb2); (try clear hk); (try clear hi)))
  go_loopg [7] k (fun kq v7 w' => ∃ (x7_1 : Int), v7 = .int .i64 x7_1 ∧ Aside0 (lambrequinref09_Check.l0 kq x7_1 a0_0 l0_1 l0_2 = some (r1, r2, r3)) ∧ Aside0 (kq ≤ k) ∧ Aside0 (w'.heap[gb101]? = some (.cells #[.string a0_0, (.slice A0_1 l0_1.length c0_1), (.slice A0_2 l0_2.length c0_2)] 27 (0, 0))) ∧ Aside0 (Below w.heap.size w w'))
  case atStart => exact ⟨(0), (by first | rfl | (simp; done) | (simp [*]; done)), H', ⟨Nat.le_refl _⟩, ⟨by (with_reducible repeat (first | refine bN ?_ _ | refine bD ?_ | refine bA ?_ _)); exact BK101.out⟩, ⟨by repeat (first | (with_reducible first | exact HB.out | apply lA | apply lN | apply lD | refine lS ?_ GE101.out) | exact HB.out)⟩⟩
  case round =>
   clear H'
   try clear p2
   try clear c3
   try clear c5
   try clear hcz5_0
   try clear hcz5_1
   try clear hcz5_2
   try clear hcz8_0
   try clear hcz8_1
   try clear hcz8_2
   try clear hfz5_0
   try clear hfz5_1
   try clear hfz5_2
   try clear hfz8_0
   try clear hfz8_1
   try clear hfz8_2
   obtain ⟨x7_1, rfl, HA, HK1, BK101, HB⟩ := hrel
   cases gk with
   | zero => exact absurd HA.out (by simp [lambrequinref09_Check.l0])
   | succ k1 =>
    have H := HA.out
    clear HA
    simp only [lambrequinref09_Check.l0] at H
    by_cases c10 : x7_1 < (l0_2.length : Int)
    ·rw [if_pos c10] at H
     have c10b0 : decide (x7_1 < (l0_2.length : Int)) = true := decide_eq_true c10
     clear c10
     by_cases c11 : 0 ≤ x7_1
     ·rw [if_pos c11] at H
      have c11b0 : decide (0 ≤ x7_1) = true := decide_eq_true c11
      clear c11
      obtain ⟨y106, hy106⟩ : ∃ y_ : List (Term), y_ = (([(⟨(rd_T47 l0_2 x7_1).l.isVar, (rd_T47 l0_2 x7_1).l.name, (⟨(rd_T47 l0_2 x7_1).l.val.isSym, (rd_T47 l0_2 x7_1).l.val.sym, (rd_T47 l0_2 x7_1).l.val.n⟩ : Val)⟩ : Term), (⟨(rd_T47 l0_2 x7_1).r.isVar, (rd_T47 l0_2 x7_1).r.name, (⟨(rd_T47 l0_2 x7_1).r.val.isSym, (rd_T47 l0_2 x7_1).r.val.sym, (rd_T47 l0_2 x7_1).r.val.n⟩ : Val)⟩ : Term)] : List (Term))) := ⟨_, rfl⟩
      replace H : (if ((rd_T47 l0_2 x7_1).kind) = 2 then ((lambrequinref09_loose.f k1 a0_0 l0_1 l0_2 ((rd_T47 l0_2 x7_1).atom.args)).bind fun bt109 => (if bt109.2 = true then (some (bt109.1, x7_1, 6)) else (lambrequinref09_Check.l0 k1 (wrap64 (x7_1 + 1)) a0_0 l0_1 l0_2))) else (if ((rd_T47 l0_2 x7_1).kind) = 3 then ((lambrequinref09_loose.f k1 a0_0 l0_1 l0_2 y106).bind fun bt111 => (if bt111.2 = true then (some (bt111.1, x7_1, 6)) else (lambrequinref09_Check.l0 k1 (wrap64 (x7_1 + 1)) a0_0 l0_1 l0_2))) else (lambrequinref09_Check.l0 k1 (wrap64 (x7_1 + 1)) a0_0 l0_1 l0_2))) = some (r1, r2, r3) := by first | (rw [hy106]; with_reducible exact H) | (have H2_ := (Option.bind_some _ _).symm.trans H; rw [hy106]; with_reducible exact H2_) | (have H2_ := (Option.bind_some _ _).symm.trans H; with_reducible exact H2_) | with_reducible exact H | (rw [hy106]; exact H) | exact H
      have Ny106 := am hy106
      clear hy106
      by_cases c12 : ((rd_T47 l0_2 x7_1).kind) = 2
      ·rw [if_pos c12] at H
       have c12b0 : (((rd_T47 l0_2 x7_1).kind) == 2) = true := beq_iff_eq.mpr c12
       have c12b1 : (((rd_T47 l0_2 x7_1).kind) != 2) = false := bne_eq_false_iff_eq.mpr c12
       clear c12
       replace H := Option.bind_eq_some_iff.mp H
       obtain ⟨⟨t109, t110⟩, A130, H⟩ := H
       replace H : (if t110 = true then (some (t109, x7_1, 6)) else (lambrequinref09_Check.l0 k1 (wrap64 (x7_1 + 1)) a0_0 l0_1 l0_2)) = some (r1, r2, r3) := H
       have A13 := am A130
       clear A130
       by_cases c14 : t110 = true
       ·subst c14
        have H1 : (some (t109, x7_1, 6)) = some (r1, r2, r3) := by rw [if_pos rfl] at H; exact H
        clear H
        have H := H1
        clear H1
        simp only [Option.some.injEq, Prod.mk.injEq] at H
        obtain ⟨rfl, rfl, rfl⟩ := H
        have hcz15_0 : wr.cell? ⟨gb101, 0, none⟩ = some (.string a0_0) := (blk_cell BK101.out 0).trans rfl
        have hcz15_1 : wr.cell? ⟨gb101, 1, none⟩ = some (.slice A0_1 l0_1.length c0_1) := (blk_cell BK101.out 1).trans rfl
        have hcz15_2 : wr.cell? ⟨gb101, 2, none⟩ = some (.slice A0_2 l0_2.length c0_2) := (blk_cell BK101.out 2).trans rfl
        have hfz15_0 := blk_frozen BK101.out 0
        have hfz15_1 := blk_frozen BK101.out 1
        have hfz15_2 := blk_frozen BK101.out 2
        have p104 : 0 ≤ (x7_1 : Int) := of_decide_eq_true (by first | (with_reducible assumption) | assumption)
        have q104 : x7_1 < (l0_2.length : Int) := of_decide_eq_true (by first | (with_reducible assumption) | assumption)
        obtain ⟨ad104, A104_2, c104_2, e104, hx104_0, hx104_1, hx104_2, hx104_3, hx104_4, hx104_5, hx104_6, hx104_7, hx104_8, hx104_9, hx104_10, hx104_11, hx104_12, hx104_13, hl104_2, hi104_2⟩ := at_T47 HR0_2.out x7_1 p104 q104
        cases e104
        replace hx104_0 := (HB.out.cell (blt_ hx104_0)).trans hx104_0
        replace hx104_1 := (HB.out.cell (blt_ hx104_1)).trans hx104_1
        replace hx104_2 := (HB.out.cell (blt_ hx104_2)).trans hx104_2
        replace hx104_3 := (HB.out.cell (blt_ hx104_3)).trans hx104_3
        replace hx104_4 := (HB.out.cell (blt_ hx104_4)).trans hx104_4
        replace hx104_5 := (HB.out.cell (blt_ hx104_5)).trans hx104_5
        replace hx104_6 := (HB.out.cell (blt_ hx104_6)).trans hx104_6
        replace hx104_7 := (HB.out.cell (blt_ hx104_7)).trans hx104_7
        replace hx104_8 := (HB.out.cell (blt_ hx104_8)).trans hx104_8
        replace hx104_9 := (HB.out.cell (blt_ hx104_9)).trans hx104_9
        replace hx104_10 := (HB.out.cell (blt_ hx104_10)).trans hx104_10
        replace hx104_11 := (HB.out.cell (blt_ hx104_11)).trans hx104_11
        replace hx104_12 := (HB.out.cell (blt_ hx104_12)).trans hx104_12
        replace hx104_13 := (HB.out.cell (blt_ hx104_13)).trans hx104_13
        have HR104_2 := am hi104_2
        have HC104_2 := am hl104_2
        clear hi104_2 hl104_2
        replace p104 := eq_true p104
        replace q104 := eq_true q104
        go_wp2_with (first | ((with_reducible refine gate_dst (N := 8) rfl ?_); refine box_event ?hg (N := 8) ?hd (cs := #[.int .i64 0, .string (⟨#[]⟩ : ByteArray), .slice none 0 0, .string (⟨#[]⟩ : ByteArray), .bool false, .string (⟨#[]⟩ : ByteArray), .bool false, .string (⟨#[]⟩ : ByteArray), .int .i64 0, .bool false, .string (⟨#[]⟩ : ByteArray), .bool false, .string (⟨#[]⟩ : ByteArray), .int .i64 0]) (t := 47) ?hr ?_; (case hd => rfl); (case hg => rfl); (case hr => first | (go_simp; done) | (go_simp; rfl)); intro gb105 hg w16 hbox hb; have BK105 := am (hbox); have GW105 := am ((by rw [hg]; exact (below_size (by repeat (first | (with_reducible first | exact HB.out | apply lA | apply lN | apply lD | refine lS ?_ GE101.out) | exact HB.out))) : w.heap.size ≤ gb105)); have GE105 := am ((by rw [hg]; exact (below_size (by repeat (first | (with_reducible first | exact HB.out | apply lA | apply lN | apply lD | refine lS ?_ GE101.out) | exact HB.out))) : w.heap.size ≤ gb105)); replace HB := am (below_step (by repeat (first | (with_reducible first | exact HB.out | apply lA | apply lN | apply lD | refine lS ?_ GE101.out) | exact HB.out)) hb); have NB101_105 := am ((by rw [hg]; exact Nat.ne_of_lt (blk_lt (g := gb101) (o := .cells #[.string a0_0, .slice A0_1 l0_1.length c0_1, .slice (some ad104) l0_2.length c0_2] 27 (0, 0)) (by (with_reducible repeat (first | refine bN ?_ _ | refine bD ?_ | refine bA ?_ _)); exact BK101.out)) : gb101 ≠ gb105)); have NB105_101 := am ((by rw [hg]; exact Nat.ne_of_gt (blk_lt (g := gb101) (o := .cells #[.string a0_0, .slice A0_1 l0_1.length c0_1, .slice (some ad104) l0_2.length c0_2] 27 (0, 0)) (by (with_reducible repeat (first | refine bN ?_ _ | refine bD ?_ | refine bA ?_ _)); exact BK101.out)) : gb105 ≠ gb101)); replace BK101 := am (blk_below (g := gb101) (o := .cells #[.string a0_0, .slice A0_1 l0_1.length c0_1, .slice (some ad104) l0_2.length c0_2] 27 (0, 0)) (by (with_reducible repeat (first | refine bN ?_ _ | refine bD ?_ | refine bA ?_ _)); exact BK101.out) hb); clear hb hbox hg; have hnb17 := NB105_101.out; have hnc17 := NB101_105.out; have hcz18_0 : w16.cell? ⟨gb105, 0, none⟩ = some (.int .i64 0) := (blk_cell BK105.out 0).trans rfl; have hcz18_1 : w16.cell? ⟨gb105, 1, none⟩ = some (.string (⟨#[]⟩ : ByteArray)) := (blk_cell BK105.out 1).trans rfl; have hcz18_2 : w16.cell? ⟨gb105, 2, none⟩ = some (.slice none 0 0) := (blk_cell BK105.out 2).trans rfl; have hcz18_3 : w16.cell? ⟨gb105, 3, none⟩ = some (.string (⟨#[]⟩ : ByteArray)) := (blk_cell BK105.out 3).trans rfl; have hcz18_4 : w16.cell? ⟨gb105, 4, none⟩ = some (.bool false) := (blk_cell BK105.out 4).trans rfl; have hcz18_5 : w16.cell? ⟨gb105, 5, none⟩ = some (.string (⟨#[]⟩ : ByteArray)) := (blk_cell BK105.out 5).trans rfl; have hcz18_6 : w16.cell? ⟨gb105, 6, none⟩ = some (.bool false) := (blk_cell BK105.out 6).trans rfl; have hcz18_7 : w16.cell? ⟨gb105, 7, none⟩ = some (.string (⟨#[]⟩ : ByteArray)) := (blk_cell BK105.out 7).trans rfl; have hcz18_8 : w16.cell? ⟨gb105, 8, none⟩ = some (.int .i64 0) := (blk_cell BK105.out 8).trans rfl; have hcz18_9 : w16.cell? ⟨gb105, 9, none⟩ = some (.bool false) := (blk_cell BK105.out 9).trans rfl; have hcz18_10 : w16.cell? ⟨gb105, 10, none⟩ = some (.string (⟨#[]⟩ : ByteArray)) := (blk_cell BK105.out 10).trans rfl; have hcz18_11 : w16.cell? ⟨gb105, 11, none⟩ = some (.bool false) := (blk_cell BK105.out 11).trans rfl; have hcz18_12 : w16.cell? ⟨gb105, 12, none⟩ = some (.string (⟨#[]⟩ : ByteArray)) := (blk_cell BK105.out 12).trans rfl; have hcz18_13 : w16.cell? ⟨gb105, 13, none⟩ = some (.int .i64 0) := (blk_cell BK105.out 13).trans rfl; have hfz18_0 := blk_frozen BK105.out 0; have hfz18_1 := blk_frozen BK105.out 1; have hfz18_2 := blk_frozen BK105.out 2; have hfz18_3 := blk_frozen BK105.out 3; have hfz18_4 := blk_frozen BK105.out 4; have hfz18_5 := blk_frozen BK105.out 5; have hfz18_6 := blk_frozen BK105.out 6; have hfz18_7 := blk_frozen BK105.out 7; have hfz18_8 := blk_frozen BK105.out 8; have hfz18_9 := blk_frozen BK105.out 9; have hfz18_10 := blk_frozen BK105.out 10; have hfz18_11 := blk_frozen BK105.out 11; have hfz18_12 := blk_frozen BK105.out 12; have hfz18_13 := blk_frozen BK105.out 13) | ((with_reducible refine gate_dst (N := 38) rfl ?_); refine Kd.R_lit k45 _ 45 ?hg (N := 38) ?hd (xs := ([(⟨(rd_T47 l0_2 x7_1).l.isVar, (rd_T47 l0_2 x7_1).l.name, (⟨(rd_T47 l0_2 x7_1).l.val.isSym, (rd_T47 l0_2 x7_1).l.val.sym, (rd_T47 l0_2 x7_1).l.val.n⟩ : Val)⟩ : Term), (⟨(rd_T47 l0_2 x7_1).r.isVar, (rd_T47 l0_2 x7_1).r.name, (⟨(rd_T47 l0_2 x7_1).r.val.isSym, (rd_T47 l0_2 x7_1).r.val.sym, (rd_T47 l0_2 x7_1).r.val.n⟩ : Val)⟩ : Term)] : List (Term))) (inner := [.bool ((rd_T47 l0_2 x7_1).l.isVar), .string ((rd_T47 l0_2 x7_1).l.name), .bool ((rd_T47 l0_2 x7_1).l.val.isSym), .string ((rd_T47 l0_2 x7_1).l.val.sym), .int .i64 ((rd_T47 l0_2 x7_1).l.val.n), .bool ((rd_T47 l0_2 x7_1).r.isVar), .string ((rd_T47 l0_2 x7_1).r.name), .bool ((rd_T47 l0_2 x7_1).r.val.isSym), .string ((rd_T47 l0_2 x7_1).r.val.sym), .int .i64 ((rd_T47 l0_2 x7_1).r.val.n)]) (ok := fun _ => True) (okp := fun _ => True) ?hr ?hp (fun _ hk => hk) trivial (Below.refl _ _) (Nat.le_refl _) (by simp) ?_; (case hd => rfl); (case hg => rfl); (case hr => first | (go_simp; done) | (go_simp; rfl)); (case hp => exact (Reps.c5 (show Kd.M k45 _ _ _ (⟨(rd_T47 l0_2 x7_1).l.isVar, (rd_T47 l0_2 x7_1).l.name, (⟨(rd_T47 l0_2 x7_1).l.val.isSym, (rd_T47 l0_2 x7_1).l.val.sym, (rd_T47 l0_2 x7_1).l.val.n⟩ : Val)⟩ : Term) [.bool ((rd_T47 l0_2 x7_1).l.isVar), .string ((rd_T47 l0_2 x7_1).l.name), .bool ((rd_T47 l0_2 x7_1).l.val.isSym), .string ((rd_T47 l0_2 x7_1).l.val.sym), .int .i64 ((rd_T47 l0_2 x7_1).l.val.n)] from (k45_mkM _ _ _ (⟨(rd_T47 l0_2 x7_1).l.isVar, (rd_T47 l0_2 x7_1).l.name, (⟨(rd_T47 l0_2 x7_1).l.val.isSym, (rd_T47 l0_2 x7_1).l.val.sym, (rd_T47 l0_2 x7_1).l.val.n⟩ : Val)⟩ : Term) )) (Reps.c5 (show Kd.M k45 _ _ _ (⟨(rd_T47 l0_2 x7_1).r.isVar, (rd_T47 l0_2 x7_1).r.name, (⟨(rd_T47 l0_2 x7_1).r.val.isSym, (rd_T47 l0_2 x7_1).r.val.sym, (rd_T47 l0_2 x7_1).r.val.n⟩ : Val)⟩ : Term) [.bool ((rd_T47 l0_2 x7_1).r.isVar), .string ((rd_T47 l0_2 x7_1).r.name), .bool ((rd_T47 l0_2 x7_1).r.val.isSym), .string ((rd_T47 l0_2 x7_1).r.val.sym), .int .i64 ((rd_T47 l0_2 x7_1).r.val.n)] from (k45_mkM _ _ _ (⟨(rd_T47 l0_2 x7_1).r.isVar, (rd_T47 l0_2 x7_1).r.name, (⟨(rd_T47 l0_2 x7_1).r.val.isSym, (rd_T47 l0_2 x7_1).r.val.sym, (rd_T47 l0_2 x7_1).r.val.n⟩ : Val)⟩ : Term) )) (Reps.none _ _)))); intro v107 w19 ho20 hb hg_ hnew_; clear hg_ hnew_; (first | rw [← Ny106.out] at ho20 | (simp only [Int.reduceToNat] at ho20; rw [← Ny106.out] at ho20)); have HO108 := am (Kd.R_lower ho20 (below_size (by repeat (first | (with_reducible first | exact HB.out | apply lA | apply lN | apply lD | refine lS ?_ GE101.out | refine lS ?_ GE105.out) | exact HB.out)))); replace BK101 := am (blk_below (g := gb101) (o := .cells #[.string a0_0, .slice A0_1 l0_1.length c0_1, .slice (some ad104) l0_2.length c0_2] 27 (0, 0)) (by repeat (first | (with_reducible first | exact BK101.out | refine bN ?_ _ | refine bD ?_ | refine bA ?_ _) | refine blk_far ?_ NB101_105.out _ | exact BK101.out)) hb); replace BK105 := am (blk_below (g := gb105) (o := .cells #[.int .i64 ((rd_T47 l0_2 x7_1).kind), .string ((rd_T47 l0_2 x7_1).atom.pred), .slice A104_2 ((rd_T47 l0_2 x7_1).atom.args).length c104_2, .string ((rd_T47 l0_2 x7_1).op), .bool ((rd_T47 l0_2 x7_1).l.isVar), .string ((rd_T47 l0_2 x7_1).l.name), .bool ((rd_T47 l0_2 x7_1).l.val.isSym), .string ((rd_T47 l0_2 x7_1).l.val.sym), .int .i64 ((rd_T47 l0_2 x7_1).l.val.n), .bool ((rd_T47 l0_2 x7_1).r.isVar), .string ((rd_T47 l0_2 x7_1).r.name), .bool ((rd_T47 l0_2 x7_1).r.val.isSym), .string ((rd_T47 l0_2 x7_1).r.val.sym), .int .i64 ((rd_T47 l0_2 x7_1).r.val.n)] 47 (0, 0)) (by (with_reducible repeat (first | refine bN ?_ _ | refine bD ?_ | refine bA ?_ _)); refine blk_put (cs := #[.int .i64 ((rd_T47 l0_2 x7_1).kind), .string ((rd_T47 l0_2 x7_1).atom.pred), .slice A104_2 ((rd_T47 l0_2 x7_1).atom.args).length c104_2, .string ((rd_T47 l0_2 x7_1).op), .bool ((rd_T47 l0_2 x7_1).l.isVar), .string ((rd_T47 l0_2 x7_1).l.name), .bool ((rd_T47 l0_2 x7_1).l.val.isSym), .string ((rd_T47 l0_2 x7_1).l.val.sym), .int .i64 ((rd_T47 l0_2 x7_1).l.val.n), .bool ((rd_T47 l0_2 x7_1).r.isVar), .string ((rd_T47 l0_2 x7_1).r.name), .bool ((rd_T47 l0_2 x7_1).r.val.isSym), .string ((rd_T47 l0_2 x7_1).r.val.sym), .int .i64 0]) ?_ 13 _ rfl; (with_reducible repeat (first | refine bN ?_ _ | refine bD ?_ | refine bA ?_ _)); refine blk_put (cs := #[.int .i64 ((rd_T47 l0_2 x7_1).kind), .string ((rd_T47 l0_2 x7_1).atom.pred), .slice A104_2 ((rd_T47 l0_2 x7_1).atom.args).length c104_2, .string ((rd_T47 l0_2 x7_1).op), .bool ((rd_T47 l0_2 x7_1).l.isVar), .string ((rd_T47 l0_2 x7_1).l.name), .bool ((rd_T47 l0_2 x7_1).l.val.isSym), .string ((rd_T47 l0_2 x7_1).l.val.sym), .int .i64 ((rd_T47 l0_2 x7_1).l.val.n), .bool ((rd_T47 l0_2 x7_1).r.isVar), .string ((rd_T47 l0_2 x7_1).r.name), .bool ((rd_T47 l0_2 x7_1).r.val.isSym), .string (⟨#[]⟩ : ByteArray), .int .i64 0]) ?_ 12 _ rfl; (with_reducible repeat (first | refine bN ?_ _ | refine bD ?_ | refine bA ?_ _)); refine blk_put (cs := #[.int .i64 ((rd_T47 l0_2 x7_1).kind), .string ((rd_T47 l0_2 x7_1).atom.pred), .slice A104_2 ((rd_T47 l0_2 x7_1).atom.args).length c104_2, .string ((rd_T47 l0_2 x7_1).op), .bool ((rd_T47 l0_2 x7_1).l.isVar), .string ((rd_T47 l0_2 x7_1).l.name), .bool ((rd_T47 l0_2 x7_1).l.val.isSym), .string ((rd_T47 l0_2 x7_1).l.val.sym), .int .i64 ((rd_T47 l0_2 x7_1).l.val.n), .bool ((rd_T47 l0_2 x7_1).r.isVar), .string ((rd_T47 l0_2 x7_1).r.name), .bool false, .string (⟨#[]⟩ : ByteArray), .int .i64 0]) ?_ 11 _ rfl; (with_reducible repeat (first | refine bN ?_ _ | refine bD ?_ | refine bA ?_ _)); refine blk_put (cs := #[.int .i64 ((rd_T47 l0_2 x7_1).kind), .string ((rd_T47 l0_2 x7_1).atom.pred), .slice A104_2 ((rd_T47 l0_2 x7_1).atom.args).length c104_2, .string ((rd_T47 l0_2 x7_1).op), .bool ((rd_T47 l0_2 x7_1).l.isVar), .string ((rd_T47 l0_2 x7_1).l.name), .bool ((rd_T47 l0_2 x7_1).l.val.isSym), .string ((rd_T47 l0_2 x7_1).l.val.sym), .int .i64 ((rd_T47 l0_2 x7_1).l.val.n), .bool ((rd_T47 l0_2 x7_1).r.isVar), .string (⟨#[]⟩ : ByteArray), .bool false, .string (⟨#[]⟩ : ByteArray), .int .i64 0]) ?_ 10 _ rfl; (with_reducible repeat (first | refine bN ?_ _ | refine bD ?_ | refine bA ?_ _)); refine blk_put (cs := #[.int .i64 ((rd_T47 l0_2 x7_1).kind), .string ((rd_T47 l0_2 x7_1).atom.pred), .slice A104_2 ((rd_T47 l0_2 x7_1).atom.args).length c104_2, .string ((rd_T47 l0_2 x7_1).op), .bool ((rd_T47 l0_2 x7_1).l.isVar), .string ((rd_T47 l0_2 x7_1).l.name), .bool ((rd_T47 l0_2 x7_1).l.val.isSym), .string ((rd_T47 l0_2 x7_1).l.val.sym), .int .i64 ((rd_T47 l0_2 x7_1).l.val.n), .bool false, .string (⟨#[]⟩ : ByteArray), .bool false, .string (⟨#[]⟩ : ByteArray), .int .i64 0]) ?_ 9 _ rfl; (with_reducible repeat (first | refine bN ?_ _ | refine bD ?_ | refine bA ?_ _)); refine blk_put (cs := #[.int .i64 ((rd_T47 l0_2 x7_1).kind), .string ((rd_T47 l0_2 x7_1).atom.pred), .slice A104_2 ((rd_T47 l0_2 x7_1).atom.args).length c104_2, .string ((rd_T47 l0_2 x7_1).op), .bool ((rd_T47 l0_2 x7_1).l.isVar), .string ((rd_T47 l0_2 x7_1).l.name), .bool ((rd_T47 l0_2 x7_1).l.val.isSym), .string ((rd_T47 l0_2 x7_1).l.val.sym), .int .i64 0, .bool false, .string (⟨#[]⟩ : ByteArray), .bool false, .string (⟨#[]⟩ : ByteArray), .int .i64 0]) ?_ 8 _ rfl; (with_reducible repeat (first | refine bN ?_ _ | refine bD ?_ | refine bA ?_ _)); refine blk_put (cs := #[.int .i64 ((rd_T47 l0_2 x7_1).kind), .string ((rd_T47 l0_2 x7_1).atom.pred), .slice A104_2 ((rd_T47 l0_2 x7_1).atom.args).length c104_2, .string ((rd_T47 l0_2 x7_1).op), .bool ((rd_T47 l0_2 x7_1).l.isVar), .string ((rd_T47 l0_2 x7_1).l.name), .bool ((rd_T47 l0_2 x7_1).l.val.isSym), .string (⟨#[]⟩ : ByteArray), .int .i64 0, .bool false, .string (⟨#[]⟩ : ByteArray), .bool false, .string (⟨#[]⟩ : ByteArray), .int .i64 0]) ?_ 7 _ rfl; (with_reducible repeat (first | refine bN ?_ _ | refine bD ?_ | refine bA ?_ _)); refine blk_put (cs := #[.int .i64 ((rd_T47 l0_2 x7_1).kind), .string ((rd_T47 l0_2 x7_1).atom.pred), .slice A104_2 ((rd_T47 l0_2 x7_1).atom.args).length c104_2, .string ((rd_T47 l0_2 x7_1).op), .bool ((rd_T47 l0_2 x7_1).l.isVar), .string ((rd_T47 l0_2 x7_1).l.name), .bool false, .string (⟨#[]⟩ : ByteArray), .int .i64 0, .bool false, .string (⟨#[]⟩ : ByteArray), .bool false, .string (⟨#[]⟩ : ByteArray), .int .i64 0]) ?_ 6 _ rfl; (with_reducible repeat (first | refine bN ?_ _ | refine bD ?_ | refine bA ?_ _)); refine blk_put (cs := #[.int .i64 ((rd_T47 l0_2 x7_1).kind), .string ((rd_T47 l0_2 x7_1).atom.pred), .slice A104_2 ((rd_T47 l0_2 x7_1).atom.args).length c104_2, .string ((rd_T47 l0_2 x7_1).op), .bool ((rd_T47 l0_2 x7_1).l.isVar), .string (⟨#[]⟩ : ByteArray), .bool false, .string (⟨#[]⟩ : ByteArray), .int .i64 0, .bool false, .string (⟨#[]⟩ : ByteArray), .bool false, .string (⟨#[]⟩ : ByteArray), .int .i64 0]) ?_ 5 _ rfl; (with_reducible repeat (first | refine bN ?_ _ | refine bD ?_ | refine bA ?_ _)); refine blk_put (cs := #[.int .i64 ((rd_T47 l0_2 x7_1).kind), .string ((rd_T47 l0_2 x7_1).atom.pred), .slice A104_2 ((rd_T47 l0_2 x7_1).atom.args).length c104_2, .string ((rd_T47 l0_2 x7_1).op), .bool false, .string (⟨#[]⟩ : ByteArray), .bool false, .string (⟨#[]⟩ : ByteArray), .int .i64 0, .bool false, .string (⟨#[]⟩ : ByteArray), .bool false, .string (⟨#[]⟩ : ByteArray), .int .i64 0]) ?_ 4 _ rfl; (with_reducible repeat (first | refine bN ?_ _ | refine bD ?_ | refine bA ?_ _)); refine blk_put (cs := #[.int .i64 ((rd_T47 l0_2 x7_1).kind), .string ((rd_T47 l0_2 x7_1).atom.pred), .slice A104_2 ((rd_T47 l0_2 x7_1).atom.args).length c104_2, .string (⟨#[]⟩ : ByteArray), .bool false, .string (⟨#[]⟩ : ByteArray), .bool false, .string (⟨#[]⟩ : ByteArray), .int .i64 0, .bool false, .string (⟨#[]⟩ : ByteArray), .bool false, .string (⟨#[]⟩ : ByteArray), .int .i64 0]) ?_ 3 _ rfl; (with_reducible repeat (first | refine bN ?_ _ | refine bD ?_ | refine bA ?_ _)); refine blk_put (cs := #[.int .i64 ((rd_T47 l0_2 x7_1).kind), .string ((rd_T47 l0_2 x7_1).atom.pred), .slice none 0 0, .string (⟨#[]⟩ : ByteArray), .bool false, .string (⟨#[]⟩ : ByteArray), .bool false, .string (⟨#[]⟩ : ByteArray), .int .i64 0, .bool false, .string (⟨#[]⟩ : ByteArray), .bool false, .string (⟨#[]⟩ : ByteArray), .int .i64 0]) ?_ 2 _ rfl; (with_reducible repeat (first | refine bN ?_ _ | refine bD ?_ | refine bA ?_ _)); refine blk_put (cs := #[.int .i64 ((rd_T47 l0_2 x7_1).kind), .string (⟨#[]⟩ : ByteArray), .slice none 0 0, .string (⟨#[]⟩ : ByteArray), .bool false, .string (⟨#[]⟩ : ByteArray), .bool false, .string (⟨#[]⟩ : ByteArray), .int .i64 0, .bool false, .string (⟨#[]⟩ : ByteArray), .bool false, .string (⟨#[]⟩ : ByteArray), .int .i64 0]) ?_ 1 _ rfl; (with_reducible repeat (first | refine bN ?_ _ | refine bD ?_ | refine bA ?_ _)); refine blk_put (cs := #[.int .i64 0, .string (⟨#[]⟩ : ByteArray), .slice none 0 0, .string (⟨#[]⟩ : ByteArray), .bool false, .string (⟨#[]⟩ : ByteArray), .bool false, .string (⟨#[]⟩ : ByteArray), .int .i64 0, .bool false, .string (⟨#[]⟩ : ByteArray), .bool false, .string (⟨#[]⟩ : ByteArray), .int .i64 0]) ?_ 0 _ rfl; (with_reducible repeat (first | refine bN ?_ _ | refine bD ?_ | refine bA ?_ _)); exact BK105.out) hb); replace HB := am (below_step (by repeat (first | (with_reducible first | exact HB.out | apply lA | apply lN | apply lD | refine lS ?_ GE101.out | refine lS ?_ GE105.out) | exact HB.out)) hb); clear hb ho20; have hcz21_0 : w19.cell? ⟨gb105, 0, none⟩ = some (.int .i64 ((rd_T47 l0_2 x7_1).kind)) := (blk_cell BK105.out 0).trans rfl; have hcz21_1 : w19.cell? ⟨gb105, 1, none⟩ = some (.string ((rd_T47 l0_2 x7_1).atom.pred)) := (blk_cell BK105.out 1).trans rfl; have hcz21_2 : w19.cell? ⟨gb105, 2, none⟩ = some (.slice A104_2 ((rd_T47 l0_2 x7_1).atom.args).length c104_2) := (blk_cell BK105.out 2).trans rfl; have hcz21_3 : w19.cell? ⟨gb105, 3, none⟩ = some (.string ((rd_T47 l0_2 x7_1).op)) := (blk_cell BK105.out 3).trans rfl; have hcz21_4 : w19.cell? ⟨gb105, 4, none⟩ = some (.bool ((rd_T47 l0_2 x7_1).l.isVar)) := (blk_cell BK105.out 4).trans rfl; have hcz21_5 : w19.cell? ⟨gb105, 5, none⟩ = some (.string ((rd_T47 l0_2 x7_1).l.name)) := (blk_cell BK105.out 5).trans rfl; have hcz21_6 : w19.cell? ⟨gb105, 6, none⟩ = some (.bool ((rd_T47 l0_2 x7_1).l.val.isSym)) := (blk_cell BK105.out 6).trans rfl; have hcz21_7 : w19.cell? ⟨gb105, 7, none⟩ = some (.string ((rd_T47 l0_2 x7_1).l.val.sym)) := (blk_cell BK105.out 7).trans rfl; have hcz21_8 : w19.cell? ⟨gb105, 8, none⟩ = some (.int .i64 ((rd_T47 l0_2 x7_1).l.val.n)) := (blk_cell BK105.out 8).trans rfl; have hcz21_9 : w19.cell? ⟨gb105, 9, none⟩ = some (.bool ((rd_T47 l0_2 x7_1).r.isVar)) := (blk_cell BK105.out 9).trans rfl; have hcz21_10 : w19.cell? ⟨gb105, 10, none⟩ = some (.string ((rd_T47 l0_2 x7_1).r.name)) := (blk_cell BK105.out 10).trans rfl; have hcz21_11 : w19.cell? ⟨gb105, 11, none⟩ = some (.bool ((rd_T47 l0_2 x7_1).r.val.isSym)) := (blk_cell BK105.out 11).trans rfl; have hcz21_12 : w19.cell? ⟨gb105, 12, none⟩ = some (.string ((rd_T47 l0_2 x7_1).r.val.sym)) := (blk_cell BK105.out 12).trans rfl; have hcz21_13 : w19.cell? ⟨gb105, 13, none⟩ = some (.int .i64 ((rd_T47 l0_2 x7_1).r.val.n)) := (blk_cell BK105.out 13).trans rfl; have hfz21_0 := blk_frozen BK105.out 0; have hfz21_1 := blk_frozen BK105.out 1; have hfz21_2 := blk_frozen BK105.out 2; have hfz21_3 := blk_frozen BK105.out 3; have hfz21_4 := blk_frozen BK105.out 4; have hfz21_5 := blk_frozen BK105.out 5; have hfz21_6 := blk_frozen BK105.out 6; have hfz21_7 := blk_frozen BK105.out 7; have hfz21_8 := blk_frozen BK105.out 8; have hfz21_9 := blk_frozen BK105.out 9; have hfz21_10 := blk_frozen BK105.out 10; have hfz21_11 := blk_frozen BK105.out 11; have hfz21_12 := blk_frozen BK105.out 12; have hfz21_13 := blk_frozen BK105.out 13; have hcz22_0 : w19.cell? ⟨gb101, 0, none⟩ = some (.string a0_0) := (blk_cell BK101.out 0).trans rfl; have hcz22_1 : w19.cell? ⟨gb101, 1, none⟩ = some (.slice A0_1 l0_1.length c0_1) := (blk_cell BK101.out 1).trans rfl; have hcz22_2 : w19.cell? ⟨gb101, 2, none⟩ = some (.slice (some ad104) l0_2.length c0_2) := (blk_cell BK101.out 2).trans rfl; have hfz22_0 := blk_frozen BK101.out 0; have hfz22_1 := blk_frozen BK101.out 1; have hfz22_2 := blk_frozen BK101.out 2) | ((with_reducible refine gate_callee (f := 52) rfl ?_); refine goesL_ (some 56) rfl rfl Try.func52 (by kernel_rfl) rfl #[.agg #[.string a0_0, .slice A0_1 l0_1.length c0_1, .slice (some ad104) l0_2.length c0_2], .slice A104_2 ((rd_T47 l0_2 x7_1).atom.args).length c104_2] rfl (by (try simp only [List.map_toArray, List.map_cons, List.map_nil]); first | done | rfl | (simp only [List.length_drop, List.length_take]; rfl)) ?_; (with_reducible refine (lambrequinref09_loose.calls k1 a0_0 _ _ l0_1 _ _ l0_2 _ _ ((rd_T47 l0_2 x7_1).atom.args) t109 true _ ?side1 ?side2 ?side3 ?side4 ?side5 ?side6 A13.out).mono ?_); (case side1 => repeat (first | exact (Kd.C_below HR0_1.out HB.out) | (with_reducible refine Kd.C_alloc ?_ _) | (with_reducible refine Kd.C_drewN ?_ _) | (with_reducible refine Kd.C_drew ?_))); (case side2 => exact HC0_1.out); (case side3 => repeat (first | exact (Kd.C_below HR0_2.out HB.out) | (with_reducible refine Kd.C_alloc ?_ _) | (with_reducible refine Kd.C_drewN ?_ _) | (with_reducible refine Kd.C_drew ?_))); (case side4 => exact HC0_2.out); (case side5 => repeat (first | exact (Kd.C_below HR104_2.out HB.out) | (with_reducible refine Kd.C_alloc ?_ _) | (with_reducible refine Kd.C_drewN ?_ _) | (with_reducible refine Kd.C_drew ?_))); (case side6 => exact HC104_2.out); rintro e w23 ⟨rfl, hb⟩; refine ⟨_, rfl, ?_⟩; replace HO108 := am (Kd.R_below (by (with_reducible repeat (first | apply Ra | apply Rn | apply Rd)); exact HO108.out) hb); replace BK101 := am (blk_below (g := gb101) (o := .cells #[.string a0_0, .slice A0_1 l0_1.length c0_1, .slice (some ad104) l0_2.length c0_2] 27 (0, 0)) (by (with_reducible repeat (first | refine bN ?_ _ | refine bD ?_ | refine bA ?_ _)); exact BK101.out) hb); replace BK105 := am (blk_below (g := gb105) (o := .cells #[.int .i64 ((rd_T47 l0_2 x7_1).kind), .string ((rd_T47 l0_2 x7_1).atom.pred), .slice A104_2 ((rd_T47 l0_2 x7_1).atom.args).length c104_2, .string ((rd_T47 l0_2 x7_1).op), .bool ((rd_T47 l0_2 x7_1).l.isVar), .string ((rd_T47 l0_2 x7_1).l.name), .bool ((rd_T47 l0_2 x7_1).l.val.isSym), .string ((rd_T47 l0_2 x7_1).l.val.sym), .int .i64 ((rd_T47 l0_2 x7_1).l.val.n), .bool ((rd_T47 l0_2 x7_1).r.isVar), .string ((rd_T47 l0_2 x7_1).r.name), .bool ((rd_T47 l0_2 x7_1).r.val.isSym), .string ((rd_T47 l0_2 x7_1).r.val.sym), .int .i64 ((rd_T47 l0_2 x7_1).r.val.n)] 47 (0, 0)) (by (with_reducible repeat (first | refine bN ?_ _ | refine bD ?_ | refine bA ?_ _)); exact BK105.out) hb); replace HB := am (below_step (by repeat (first | (with_reducible first | exact HB.out | apply lA | apply lN | apply lD | refine lS ?_ GE101.out | refine lS ?_ GE105.out) | exact HB.out)) hb); (try clear hb); (try clear hb2); (try clear hk); (try clear hi)))
        go_ret3
        exact ⟨by first | rfl | (simp [errW_none, errW_some] <;> rfl) | (simp [*, errW_none, errW_some] <;> rfl), by repeat (first | (with_reducible first | exact HB.out | apply lA | apply lN | apply lD | refine lS ?_ GE101.out | refine lS ?_ GE105.out) | exact HB.out)⟩
       ·replace c14 := Bool.eq_false_iff.mpr c14
        subst c14
        have H1 : (lambrequinref09_Check.l0 k1 (wrap64 (x7_1 + 1)) a0_0 l0_1 l0_2) = some (r1, r2, r3) := by rw [if_neg (show ¬ (false = true) by decide)] at H; exact H
        clear H
        have H := H1
        clear H1
        have H' := am H
        clear H
        have hcz24_0 : wr.cell? ⟨gb101, 0, none⟩ = some (.string a0_0) := (blk_cell BK101.out 0).trans rfl
        have hcz24_1 : wr.cell? ⟨gb101, 1, none⟩ = some (.slice A0_1 l0_1.length c0_1) := (blk_cell BK101.out 1).trans rfl
        have hcz24_2 : wr.cell? ⟨gb101, 2, none⟩ = some (.slice A0_2 l0_2.length c0_2) := (blk_cell BK101.out 2).trans rfl
        have hfz24_0 := blk_frozen BK101.out 0
        have hfz24_1 := blk_frozen BK101.out 1
        have hfz24_2 := blk_frozen BK101.out 2
        have p104 : 0 ≤ (x7_1 : Int) := of_decide_eq_true (by first | (with_reducible assumption) | assumption)
        have q104 : x7_1 < (l0_2.length : Int) := of_decide_eq_true (by first | (with_reducible assumption) | assumption)
        obtain ⟨ad104, A104_2, c104_2, e104, hx104_0, hx104_1, hx104_2, hx104_3, hx104_4, hx104_5, hx104_6, hx104_7, hx104_8, hx104_9, hx104_10, hx104_11, hx104_12, hx104_13, hl104_2, hi104_2⟩ := at_T47 HR0_2.out x7_1 p104 q104
        cases e104
        replace hx104_0 := (HB.out.cell (blt_ hx104_0)).trans hx104_0
        replace hx104_1 := (HB.out.cell (blt_ hx104_1)).trans hx104_1
        replace hx104_2 := (HB.out.cell (blt_ hx104_2)).trans hx104_2
        replace hx104_3 := (HB.out.cell (blt_ hx104_3)).trans hx104_3
        replace hx104_4 := (HB.out.cell (blt_ hx104_4)).trans hx104_4
        replace hx104_5 := (HB.out.cell (blt_ hx104_5)).trans hx104_5
        replace hx104_6 := (HB.out.cell (blt_ hx104_6)).trans hx104_6
        replace hx104_7 := (HB.out.cell (blt_ hx104_7)).trans hx104_7
        replace hx104_8 := (HB.out.cell (blt_ hx104_8)).trans hx104_8
        replace hx104_9 := (HB.out.cell (blt_ hx104_9)).trans hx104_9
        replace hx104_10 := (HB.out.cell (blt_ hx104_10)).trans hx104_10
        replace hx104_11 := (HB.out.cell (blt_ hx104_11)).trans hx104_11
        replace hx104_12 := (HB.out.cell (blt_ hx104_12)).trans hx104_12
        replace hx104_13 := (HB.out.cell (blt_ hx104_13)).trans hx104_13
        have HR104_2 := am hi104_2
        have HC104_2 := am hl104_2
        clear hi104_2 hl104_2
        replace p104 := eq_true p104
        replace q104 := eq_true q104
        go_wp2_with (first | ((with_reducible refine gate_dst (N := 8) rfl ?_); refine box_event ?hg (N := 8) ?hd (cs := #[.int .i64 0, .string (⟨#[]⟩ : ByteArray), .slice none 0 0, .string (⟨#[]⟩ : ByteArray), .bool false, .string (⟨#[]⟩ : ByteArray), .bool false, .string (⟨#[]⟩ : ByteArray), .int .i64 0, .bool false, .string (⟨#[]⟩ : ByteArray), .bool false, .string (⟨#[]⟩ : ByteArray), .int .i64 0]) (t := 47) ?hr ?_; (case hd => rfl); (case hg => rfl); (case hr => first | (go_simp; done) | (go_simp; rfl)); intro gb105 hg w25 hbox hb; have BK105 := am (hbox); have GW105 := am ((by rw [hg]; exact (below_size (by repeat (first | (with_reducible first | exact HB.out | apply lA | apply lN | apply lD | refine lS ?_ GE101.out) | exact HB.out))) : w.heap.size ≤ gb105)); have GE105 := am ((by rw [hg]; exact (below_size (by repeat (first | (with_reducible first | exact HB.out | apply lA | apply lN | apply lD | refine lS ?_ GE101.out) | exact HB.out))) : w.heap.size ≤ gb105)); replace HB := am (below_step (by repeat (first | (with_reducible first | exact HB.out | apply lA | apply lN | apply lD | refine lS ?_ GE101.out) | exact HB.out)) hb); have NB101_105 := am ((by rw [hg]; exact Nat.ne_of_lt (blk_lt (g := gb101) (o := .cells #[.string a0_0, .slice A0_1 l0_1.length c0_1, .slice (some ad104) l0_2.length c0_2] 27 (0, 0)) (by (with_reducible repeat (first | refine bN ?_ _ | refine bD ?_ | refine bA ?_ _)); exact BK101.out)) : gb101 ≠ gb105)); have NB105_101 := am ((by rw [hg]; exact Nat.ne_of_gt (blk_lt (g := gb101) (o := .cells #[.string a0_0, .slice A0_1 l0_1.length c0_1, .slice (some ad104) l0_2.length c0_2] 27 (0, 0)) (by (with_reducible repeat (first | refine bN ?_ _ | refine bD ?_ | refine bA ?_ _)); exact BK101.out)) : gb105 ≠ gb101)); replace BK101 := am (blk_below (g := gb101) (o := .cells #[.string a0_0, .slice A0_1 l0_1.length c0_1, .slice (some ad104) l0_2.length c0_2] 27 (0, 0)) (by (with_reducible repeat (first | refine bN ?_ _ | refine bD ?_ | refine bA ?_ _)); exact BK101.out) hb); clear hb hbox hg; have hnb26 := NB105_101.out; have hnc26 := NB101_105.out; have hcz27_0 : w25.cell? ⟨gb105, 0, none⟩ = some (.int .i64 0) := (blk_cell BK105.out 0).trans rfl; have hcz27_1 : w25.cell? ⟨gb105, 1, none⟩ = some (.string (⟨#[]⟩ : ByteArray)) := (blk_cell BK105.out 1).trans rfl; have hcz27_2 : w25.cell? ⟨gb105, 2, none⟩ = some (.slice none 0 0) := (blk_cell BK105.out 2).trans rfl; have hcz27_3 : w25.cell? ⟨gb105, 3, none⟩ = some (.string (⟨#[]⟩ : ByteArray)) := (blk_cell BK105.out 3).trans rfl; have hcz27_4 : w25.cell? ⟨gb105, 4, none⟩ = some (.bool false) := (blk_cell BK105.out 4).trans rfl; have hcz27_5 : w25.cell? ⟨gb105, 5, none⟩ = some (.string (⟨#[]⟩ : ByteArray)) := (blk_cell BK105.out 5).trans rfl; have hcz27_6 : w25.cell? ⟨gb105, 6, none⟩ = some (.bool false) := (blk_cell BK105.out 6).trans rfl; have hcz27_7 : w25.cell? ⟨gb105, 7, none⟩ = some (.string (⟨#[]⟩ : ByteArray)) := (blk_cell BK105.out 7).trans rfl; have hcz27_8 : w25.cell? ⟨gb105, 8, none⟩ = some (.int .i64 0) := (blk_cell BK105.out 8).trans rfl; have hcz27_9 : w25.cell? ⟨gb105, 9, none⟩ = some (.bool false) := (blk_cell BK105.out 9).trans rfl; have hcz27_10 : w25.cell? ⟨gb105, 10, none⟩ = some (.string (⟨#[]⟩ : ByteArray)) := (blk_cell BK105.out 10).trans rfl; have hcz27_11 : w25.cell? ⟨gb105, 11, none⟩ = some (.bool false) := (blk_cell BK105.out 11).trans rfl; have hcz27_12 : w25.cell? ⟨gb105, 12, none⟩ = some (.string (⟨#[]⟩ : ByteArray)) := (blk_cell BK105.out 12).trans rfl; have hcz27_13 : w25.cell? ⟨gb105, 13, none⟩ = some (.int .i64 0) := (blk_cell BK105.out 13).trans rfl; have hfz27_0 := blk_frozen BK105.out 0; have hfz27_1 := blk_frozen BK105.out 1; have hfz27_2 := blk_frozen BK105.out 2; have hfz27_3 := blk_frozen BK105.out 3; have hfz27_4 := blk_frozen BK105.out 4; have hfz27_5 := blk_frozen BK105.out 5; have hfz27_6 := blk_frozen BK105.out 6; have hfz27_7 := blk_frozen BK105.out 7; have hfz27_8 := blk_frozen BK105.out 8; have hfz27_9 := blk_frozen BK105.out 9; have hfz27_10 := blk_frozen BK105.out 10; have hfz27_11 := blk_frozen BK105.out 11; have hfz27_12 := blk_frozen BK105.out 12; have hfz27_13 := blk_frozen BK105.out 13) | ((with_reducible refine gate_dst (N := 38) rfl ?_); refine Kd.R_lit k45 _ 45 ?hg (N := 38) ?hd (xs := ([(⟨(rd_T47 l0_2 x7_1).l.isVar, (rd_T47 l0_2 x7_1).l.name, (⟨(rd_T47 l0_2 x7_1).l.val.isSym, (rd_T47 l0_2 x7_1).l.val.sym, (rd_T47 l0_2 x7_1).l.val.n⟩ : Val)⟩ : Term), (⟨(rd_T47 l0_2 x7_1).r.isVar, (rd_T47 l0_2 x7_1).r.name, (⟨(rd_T47 l0_2 x7_1).r.val.isSym, (rd_T47 l0_2 x7_1).r.val.sym, (rd_T47 l0_2 x7_1).r.val.n⟩ : Val)⟩ : Term)] : List (Term))) (inner := [.bool ((rd_T47 l0_2 x7_1).l.isVar), .string ((rd_T47 l0_2 x7_1).l.name), .bool ((rd_T47 l0_2 x7_1).l.val.isSym), .string ((rd_T47 l0_2 x7_1).l.val.sym), .int .i64 ((rd_T47 l0_2 x7_1).l.val.n), .bool ((rd_T47 l0_2 x7_1).r.isVar), .string ((rd_T47 l0_2 x7_1).r.name), .bool ((rd_T47 l0_2 x7_1).r.val.isSym), .string ((rd_T47 l0_2 x7_1).r.val.sym), .int .i64 ((rd_T47 l0_2 x7_1).r.val.n)]) (ok := fun _ => True) (okp := fun _ => True) ?hr ?hp (fun _ hk => hk) trivial (Below.refl _ _) (Nat.le_refl _) (by simp) ?_; (case hd => rfl); (case hg => rfl); (case hr => first | (go_simp; done) | (go_simp; rfl)); (case hp => exact (Reps.c5 (show Kd.M k45 _ _ _ (⟨(rd_T47 l0_2 x7_1).l.isVar, (rd_T47 l0_2 x7_1).l.name, (⟨(rd_T47 l0_2 x7_1).l.val.isSym, (rd_T47 l0_2 x7_1).l.val.sym, (rd_T47 l0_2 x7_1).l.val.n⟩ : Val)⟩ : Term) [.bool ((rd_T47 l0_2 x7_1).l.isVar), .string ((rd_T47 l0_2 x7_1).l.name), .bool ((rd_T47 l0_2 x7_1).l.val.isSym), .string ((rd_T47 l0_2 x7_1).l.val.sym), .int .i64 ((rd_T47 l0_2 x7_1).l.val.n)] from (k45_mkM _ _ _ (⟨(rd_T47 l0_2 x7_1).l.isVar, (rd_T47 l0_2 x7_1).l.name, (⟨(rd_T47 l0_2 x7_1).l.val.isSym, (rd_T47 l0_2 x7_1).l.val.sym, (rd_T47 l0_2 x7_1).l.val.n⟩ : Val)⟩ : Term) )) (Reps.c5 (show Kd.M k45 _ _ _ (⟨(rd_T47 l0_2 x7_1).r.isVar, (rd_T47 l0_2 x7_1).r.name, (⟨(rd_T47 l0_2 x7_1).r.val.isSym, (rd_T47 l0_2 x7_1).r.val.sym, (rd_T47 l0_2 x7_1).r.val.n⟩ : Val)⟩ : Term) [.bool ((rd_T47 l0_2 x7_1).r.isVar), .string ((rd_T47 l0_2 x7_1).r.name), .bool ((rd_T47 l0_2 x7_1).r.val.isSym), .string ((rd_T47 l0_2 x7_1).r.val.sym), .int .i64 ((rd_T47 l0_2 x7_1).r.val.n)] from (k45_mkM _ _ _ (⟨(rd_T47 l0_2 x7_1).r.isVar, (rd_T47 l0_2 x7_1).r.name, (⟨(rd_T47 l0_2 x7_1).r.val.isSym, (rd_T47 l0_2 x7_1).r.val.sym, (rd_T47 l0_2 x7_1).r.val.n⟩ : Val)⟩ : Term) )) (Reps.none _ _)))); intro v107 w28 ho29 hb hg_ hnew_; clear hg_ hnew_; (first | rw [← Ny106.out] at ho29 | (simp only [Int.reduceToNat] at ho29; rw [← Ny106.out] at ho29)); have HO108 := am (Kd.R_lower ho29 (below_size (by repeat (first | (with_reducible first | exact HB.out | apply lA | apply lN | apply lD | refine lS ?_ GE101.out | refine lS ?_ GE105.out) | exact HB.out)))); replace BK101 := am (blk_below (g := gb101) (o := .cells #[.string a0_0, .slice A0_1 l0_1.length c0_1, .slice (some ad104) l0_2.length c0_2] 27 (0, 0)) (by repeat (first | (with_reducible first | exact BK101.out | refine bN ?_ _ | refine bD ?_ | refine bA ?_ _) | refine blk_far ?_ NB101_105.out _ | exact BK101.out)) hb); replace BK105 := am (blk_below (g := gb105) (o := .cells #[.int .i64 ((rd_T47 l0_2 x7_1).kind), .string ((rd_T47 l0_2 x7_1).atom.pred), .slice A104_2 ((rd_T47 l0_2 x7_1).atom.args).length c104_2, .string ((rd_T47 l0_2 x7_1).op), .bool ((rd_T47 l0_2 x7_1).l.isVar), .string ((rd_T47 l0_2 x7_1).l.name), .bool ((rd_T47 l0_2 x7_1).l.val.isSym), .string ((rd_T47 l0_2 x7_1).l.val.sym), .int .i64 ((rd_T47 l0_2 x7_1).l.val.n), .bool ((rd_T47 l0_2 x7_1).r.isVar), .string ((rd_T47 l0_2 x7_1).r.name), .bool ((rd_T47 l0_2 x7_1).r.val.isSym), .string ((rd_T47 l0_2 x7_1).r.val.sym), .int .i64 ((rd_T47 l0_2 x7_1).r.val.n)] 47 (0, 0)) (by (with_reducible repeat (first | refine bN ?_ _ | refine bD ?_ | refine bA ?_ _)); refine blk_put (cs := #[.int .i64 ((rd_T47 l0_2 x7_1).kind), .string ((rd_T47 l0_2 x7_1).atom.pred), .slice A104_2 ((rd_T47 l0_2 x7_1).atom.args).length c104_2, .string ((rd_T47 l0_2 x7_1).op), .bool ((rd_T47 l0_2 x7_1).l.isVar), .string ((rd_T47 l0_2 x7_1).l.name), .bool ((rd_T47 l0_2 x7_1).l.val.isSym), .string ((rd_T47 l0_2 x7_1).l.val.sym), .int .i64 ((rd_T47 l0_2 x7_1).l.val.n), .bool ((rd_T47 l0_2 x7_1).r.isVar), .string ((rd_T47 l0_2 x7_1).r.name), .bool ((rd_T47 l0_2 x7_1).r.val.isSym), .string ((rd_T47 l0_2 x7_1).r.val.sym), .int .i64 0]) ?_ 13 _ rfl; (with_reducible repeat (first | refine bN ?_ _ | refine bD ?_ | refine bA ?_ _)); refine blk_put (cs := #[.int .i64 ((rd_T47 l0_2 x7_1).kind), .string ((rd_T47 l0_2 x7_1).atom.pred), .slice A104_2 ((rd_T47 l0_2 x7_1).atom.args).length c104_2, .string ((rd_T47 l0_2 x7_1).op), .bool ((rd_T47 l0_2 x7_1).l.isVar), .string ((rd_T47 l0_2 x7_1).l.name), .bool ((rd_T47 l0_2 x7_1).l.val.isSym), .string ((rd_T47 l0_2 x7_1).l.val.sym), .int .i64 ((rd_T47 l0_2 x7_1).l.val.n), .bool ((rd_T47 l0_2 x7_1).r.isVar), .string ((rd_T47 l0_2 x7_1).r.name), .bool ((rd_T47 l0_2 x7_1).r.val.isSym), .string (⟨#[]⟩ : ByteArray), .int .i64 0]) ?_ 12 _ rfl; (with_reducible repeat (first | refine bN ?_ _ | refine bD ?_ | refine bA ?_ _)); refine blk_put (cs := #[.int .i64 ((rd_T47 l0_2 x7_1).kind), .string ((rd_T47 l0_2 x7_1).atom.pred), .slice A104_2 ((rd_T47 l0_2 x7_1).atom.args).length c104_2, .string ((rd_T47 l0_2 x7_1).op), .bool ((rd_T47 l0_2 x7_1).l.isVar), .string ((rd_T47 l0_2 x7_1).l.name), .bool ((rd_T47 l0_2 x7_1).l.val.isSym), .string ((rd_T47 l0_2 x7_1).l.val.sym), .int .i64 ((rd_T47 l0_2 x7_1).l.val.n), .bool ((rd_T47 l0_2 x7_1).r.isVar), .string ((rd_T47 l0_2 x7_1).r.name), .bool false, .string (⟨#[]⟩ : ByteArray), .int .i64 0]) ?_ 11 _ rfl; (with_reducible repeat (first | refine bN ?_ _ | refine bD ?_ | refine bA ?_ _)); refine blk_put (cs := #[.int .i64 ((rd_T47 l0_2 x7_1).kind), .string ((rd_T47 l0_2 x7_1).atom.pred), .slice A104_2 ((rd_T47 l0_2 x7_1).atom.args).length c104_2, .string ((rd_T47 l0_2 x7_1).op), .bool ((rd_T47 l0_2 x7_1).l.isVar), .string ((rd_T47 l0_2 x7_1).l.name), .bool ((rd_T47 l0_2 x7_1).l.val.isSym), .string ((rd_T47 l0_2 x7_1).l.val.sym), .int .i64 ((rd_T47 l0_2 x7_1).l.val.n), .bool ((rd_T47 l0_2 x7_1).r.isVar), .string (⟨#[]⟩ : ByteArray), .bool false, .string (⟨#[]⟩ : ByteArray), .int .i64 0]) ?_ 10 _ rfl; (with_reducible repeat (first | refine bN ?_ _ | refine bD ?_ | refine bA ?_ _)); refine blk_put (cs := #[.int .i64 ((rd_T47 l0_2 x7_1).kind), .string ((rd_T47 l0_2 x7_1).atom.pred), .slice A104_2 ((rd_T47 l0_2 x7_1).atom.args).length c104_2, .string ((rd_T47 l0_2 x7_1).op), .bool ((rd_T47 l0_2 x7_1).l.isVar), .string ((rd_T47 l0_2 x7_1).l.name), .bool ((rd_T47 l0_2 x7_1).l.val.isSym), .string ((rd_T47 l0_2 x7_1).l.val.sym), .int .i64 ((rd_T47 l0_2 x7_1).l.val.n), .bool false, .string (⟨#[]⟩ : ByteArray), .bool false, .string (⟨#[]⟩ : ByteArray), .int .i64 0]) ?_ 9 _ rfl; (with_reducible repeat (first | refine bN ?_ _ | refine bD ?_ | refine bA ?_ _)); refine blk_put (cs := #[.int .i64 ((rd_T47 l0_2 x7_1).kind), .string ((rd_T47 l0_2 x7_1).atom.pred), .slice A104_2 ((rd_T47 l0_2 x7_1).atom.args).length c104_2, .string ((rd_T47 l0_2 x7_1).op), .bool ((rd_T47 l0_2 x7_1).l.isVar), .string ((rd_T47 l0_2 x7_1).l.name), .bool ((rd_T47 l0_2 x7_1).l.val.isSym), .string ((rd_T47 l0_2 x7_1).l.val.sym), .int .i64 0, .bool false, .string (⟨#[]⟩ : ByteArray), .bool false, .string (⟨#[]⟩ : ByteArray), .int .i64 0]) ?_ 8 _ rfl; (with_reducible repeat (first | refine bN ?_ _ | refine bD ?_ | refine bA ?_ _)); refine blk_put (cs := #[.int .i64 ((rd_T47 l0_2 x7_1).kind), .string ((rd_T47 l0_2 x7_1).atom.pred), .slice A104_2 ((rd_T47 l0_2 x7_1).atom.args).length c104_2, .string ((rd_T47 l0_2 x7_1).op), .bool ((rd_T47 l0_2 x7_1).l.isVar), .string ((rd_T47 l0_2 x7_1).l.name), .bool ((rd_T47 l0_2 x7_1).l.val.isSym), .string (⟨#[]⟩ : ByteArray), .int .i64 0, .bool false, .string (⟨#[]⟩ : ByteArray), .bool false, .string (⟨#[]⟩ : ByteArray), .int .i64 0]) ?_ 7 _ rfl; (with_reducible repeat (first | refine bN ?_ _ | refine bD ?_ | refine bA ?_ _)); refine blk_put (cs := #[.int .i64 ((rd_T47 l0_2 x7_1).kind), .string ((rd_T47 l0_2 x7_1).atom.pred), .slice A104_2 ((rd_T47 l0_2 x7_1).atom.args).length c104_2, .string ((rd_T47 l0_2 x7_1).op), .bool ((rd_T47 l0_2 x7_1).l.isVar), .string ((rd_T47 l0_2 x7_1).l.name), .bool false, .string (⟨#[]⟩ : ByteArray), .int .i64 0, .bool false, .string (⟨#[]⟩ : ByteArray), .bool false, .string (⟨#[]⟩ : ByteArray), .int .i64 0]) ?_ 6 _ rfl; (with_reducible repeat (first | refine bN ?_ _ | refine bD ?_ | refine bA ?_ _)); refine blk_put (cs := #[.int .i64 ((rd_T47 l0_2 x7_1).kind), .string ((rd_T47 l0_2 x7_1).atom.pred), .slice A104_2 ((rd_T47 l0_2 x7_1).atom.args).length c104_2, .string ((rd_T47 l0_2 x7_1).op), .bool ((rd_T47 l0_2 x7_1).l.isVar), .string (⟨#[]⟩ : ByteArray), .bool false, .string (⟨#[]⟩ : ByteArray), .int .i64 0, .bool false, .string (⟨#[]⟩ : ByteArray), .bool false, .string (⟨#[]⟩ : ByteArray), .int .i64 0]) ?_ 5 _ rfl; (with_reducible repeat (first | refine bN ?_ _ | refine bD ?_ | refine bA ?_ _)); refine blk_put (cs := #[.int .i64 ((rd_T47 l0_2 x7_1).kind), .string ((rd_T47 l0_2 x7_1).atom.pred), .slice A104_2 ((rd_T47 l0_2 x7_1).atom.args).length c104_2, .string ((rd_T47 l0_2 x7_1).op), .bool false, .string (⟨#[]⟩ : ByteArray), .bool false, .string (⟨#[]⟩ : ByteArray), .int .i64 0, .bool false, .string (⟨#[]⟩ : ByteArray), .bool false, .string (⟨#[]⟩ : ByteArray), .int .i64 0]) ?_ 4 _ rfl; (with_reducible repeat (first | refine bN ?_ _ | refine bD ?_ | refine bA ?_ _)); refine blk_put (cs := #[.int .i64 ((rd_T47 l0_2 x7_1).kind), .string ((rd_T47 l0_2 x7_1).atom.pred), .slice A104_2 ((rd_T47 l0_2 x7_1).atom.args).length c104_2, .string (⟨#[]⟩ : ByteArray), .bool false, .string (⟨#[]⟩ : ByteArray), .bool false, .string (⟨#[]⟩ : ByteArray), .int .i64 0, .bool false, .string (⟨#[]⟩ : ByteArray), .bool false, .string (⟨#[]⟩ : ByteArray), .int .i64 0]) ?_ 3 _ rfl; (with_reducible repeat (first | refine bN ?_ _ | refine bD ?_ | refine bA ?_ _)); refine blk_put (cs := #[.int .i64 ((rd_T47 l0_2 x7_1).kind), .string ((rd_T47 l0_2 x7_1).atom.pred), .slice none 0 0, .string (⟨#[]⟩ : ByteArray), .bool false, .string (⟨#[]⟩ : ByteArray), .bool false, .string (⟨#[]⟩ : ByteArray), .int .i64 0, .bool false, .string (⟨#[]⟩ : ByteArray), .bool false, .string (⟨#[]⟩ : ByteArray), .int .i64 0]) ?_ 2 _ rfl; (with_reducible repeat (first | refine bN ?_ _ | refine bD ?_ | refine bA ?_ _)); refine blk_put (cs := #[.int .i64 ((rd_T47 l0_2 x7_1).kind), .string (⟨#[]⟩ : ByteArray), .slice none 0 0, .string (⟨#[]⟩ : ByteArray), .bool false, .string (⟨#[]⟩ : ByteArray), .bool false, .string (⟨#[]⟩ : ByteArray), .int .i64 0, .bool false, .string (⟨#[]⟩ : ByteArray), .bool false, .string (⟨#[]⟩ : ByteArray), .int .i64 0]) ?_ 1 _ rfl; (with_reducible repeat (first | refine bN ?_ _ | refine bD ?_ | refine bA ?_ _)); refine blk_put (cs := #[.int .i64 0, .string (⟨#[]⟩ : ByteArray), .slice none 0 0, .string (⟨#[]⟩ : ByteArray), .bool false, .string (⟨#[]⟩ : ByteArray), .bool false, .string (⟨#[]⟩ : ByteArray), .int .i64 0, .bool false, .string (⟨#[]⟩ : ByteArray), .bool false, .string (⟨#[]⟩ : ByteArray), .int .i64 0]) ?_ 0 _ rfl; (with_reducible repeat (first | refine bN ?_ _ | refine bD ?_ | refine bA ?_ _)); exact BK105.out) hb); replace HB := am (below_step (by repeat (first | (with_reducible first | exact HB.out | apply lA | apply lN | apply lD | refine lS ?_ GE101.out | refine lS ?_ GE105.out) | exact HB.out)) hb); clear hb ho29; have hcz30_0 : w28.cell? ⟨gb105, 0, none⟩ = some (.int .i64 ((rd_T47 l0_2 x7_1).kind)) := (blk_cell BK105.out 0).trans rfl; have hcz30_1 : w28.cell? ⟨gb105, 1, none⟩ = some (.string ((rd_T47 l0_2 x7_1).atom.pred)) := (blk_cell BK105.out 1).trans rfl; have hcz30_2 : w28.cell? ⟨gb105, 2, none⟩ = some (.slice A104_2 ((rd_T47 l0_2 x7_1).atom.args).length c104_2) := (blk_cell BK105.out 2).trans rfl; have hcz30_3 : w28.cell? ⟨gb105, 3, none⟩ = some (.string ((rd_T47 l0_2 x7_1).op)) := (blk_cell BK105.out 3).trans rfl; have hcz30_4 : w28.cell? ⟨gb105, 4, none⟩ = some (.bool ((rd_T47 l0_2 x7_1).l.isVar)) := (blk_cell BK105.out 4).trans rfl; have hcz30_5 : w28.cell? ⟨gb105, 5, none⟩ = some (.string ((rd_T47 l0_2 x7_1).l.name)) := (blk_cell BK105.out 5).trans rfl; have hcz30_6 : w28.cell? ⟨gb105, 6, none⟩ = some (.bool ((rd_T47 l0_2 x7_1).l.val.isSym)) := (blk_cell BK105.out 6).trans rfl; have hcz30_7 : w28.cell? ⟨gb105, 7, none⟩ = some (.string ((rd_T47 l0_2 x7_1).l.val.sym)) := (blk_cell BK105.out 7).trans rfl; have hcz30_8 : w28.cell? ⟨gb105, 8, none⟩ = some (.int .i64 ((rd_T47 l0_2 x7_1).l.val.n)) := (blk_cell BK105.out 8).trans rfl; have hcz30_9 : w28.cell? ⟨gb105, 9, none⟩ = some (.bool ((rd_T47 l0_2 x7_1).r.isVar)) := (blk_cell BK105.out 9).trans rfl; have hcz30_10 : w28.cell? ⟨gb105, 10, none⟩ = some (.string ((rd_T47 l0_2 x7_1).r.name)) := (blk_cell BK105.out 10).trans rfl; have hcz30_11 : w28.cell? ⟨gb105, 11, none⟩ = some (.bool ((rd_T47 l0_2 x7_1).r.val.isSym)) := (blk_cell BK105.out 11).trans rfl; have hcz30_12 : w28.cell? ⟨gb105, 12, none⟩ = some (.string ((rd_T47 l0_2 x7_1).r.val.sym)) := (blk_cell BK105.out 12).trans rfl; have hcz30_13 : w28.cell? ⟨gb105, 13, none⟩ = some (.int .i64 ((rd_T47 l0_2 x7_1).r.val.n)) := (blk_cell BK105.out 13).trans rfl; have hfz30_0 := blk_frozen BK105.out 0; have hfz30_1 := blk_frozen BK105.out 1; have hfz30_2 := blk_frozen BK105.out 2; have hfz30_3 := blk_frozen BK105.out 3; have hfz30_4 := blk_frozen BK105.out 4; have hfz30_5 := blk_frozen BK105.out 5; have hfz30_6 := blk_frozen BK105.out 6; have hfz30_7 := blk_frozen BK105.out 7; have hfz30_8 := blk_frozen BK105.out 8; have hfz30_9 := blk_frozen BK105.out 9; have hfz30_10 := blk_frozen BK105.out 10; have hfz30_11 := blk_frozen BK105.out 11; have hfz30_12 := blk_frozen BK105.out 12; have hfz30_13 := blk_frozen BK105.out 13; have hcz31_0 : w28.cell? ⟨gb101, 0, none⟩ = some (.string a0_0) := (blk_cell BK101.out 0).trans rfl; have hcz31_1 : w28.cell? ⟨gb101, 1, none⟩ = some (.slice A0_1 l0_1.length c0_1) := (blk_cell BK101.out 1).trans rfl; have hcz31_2 : w28.cell? ⟨gb101, 2, none⟩ = some (.slice (some ad104) l0_2.length c0_2) := (blk_cell BK101.out 2).trans rfl; have hfz31_0 := blk_frozen BK101.out 0; have hfz31_1 := blk_frozen BK101.out 1; have hfz31_2 := blk_frozen BK101.out 2) | ((with_reducible refine gate_callee (f := 52) rfl ?_); refine goesL_ (some 56) rfl rfl Try.func52 (by kernel_rfl) rfl #[.agg #[.string a0_0, .slice A0_1 l0_1.length c0_1, .slice (some ad104) l0_2.length c0_2], .slice A104_2 ((rd_T47 l0_2 x7_1).atom.args).length c104_2] rfl (by (try simp only [List.map_toArray, List.map_cons, List.map_nil]); first | done | rfl | (simp only [List.length_drop, List.length_take]; rfl)) ?_; (with_reducible refine (lambrequinref09_loose.calls k1 a0_0 _ _ l0_1 _ _ l0_2 _ _ ((rd_T47 l0_2 x7_1).atom.args) t109 false _ ?side1 ?side2 ?side3 ?side4 ?side5 ?side6 A13.out).mono ?_); (case side1 => repeat (first | exact (Kd.C_below HR0_1.out HB.out) | (with_reducible refine Kd.C_alloc ?_ _) | (with_reducible refine Kd.C_drewN ?_ _) | (with_reducible refine Kd.C_drew ?_))); (case side2 => exact HC0_1.out); (case side3 => repeat (first | exact (Kd.C_below HR0_2.out HB.out) | (with_reducible refine Kd.C_alloc ?_ _) | (with_reducible refine Kd.C_drewN ?_ _) | (with_reducible refine Kd.C_drew ?_))); (case side4 => exact HC0_2.out); (case side5 => repeat (first | exact (Kd.C_below HR104_2.out HB.out) | (with_reducible refine Kd.C_alloc ?_ _) | (with_reducible refine Kd.C_drewN ?_ _) | (with_reducible refine Kd.C_drew ?_))); (case side6 => exact HC104_2.out); rintro e w32 ⟨rfl, hb⟩; refine ⟨_, rfl, ?_⟩; replace HO108 := am (Kd.R_below (by (with_reducible repeat (first | apply Ra | apply Rn | apply Rd)); exact HO108.out) hb); replace BK101 := am (blk_below (g := gb101) (o := .cells #[.string a0_0, .slice A0_1 l0_1.length c0_1, .slice (some ad104) l0_2.length c0_2] 27 (0, 0)) (by (with_reducible repeat (first | refine bN ?_ _ | refine bD ?_ | refine bA ?_ _)); exact BK101.out) hb); replace BK105 := am (blk_below (g := gb105) (o := .cells #[.int .i64 ((rd_T47 l0_2 x7_1).kind), .string ((rd_T47 l0_2 x7_1).atom.pred), .slice A104_2 ((rd_T47 l0_2 x7_1).atom.args).length c104_2, .string ((rd_T47 l0_2 x7_1).op), .bool ((rd_T47 l0_2 x7_1).l.isVar), .string ((rd_T47 l0_2 x7_1).l.name), .bool ((rd_T47 l0_2 x7_1).l.val.isSym), .string ((rd_T47 l0_2 x7_1).l.val.sym), .int .i64 ((rd_T47 l0_2 x7_1).l.val.n), .bool ((rd_T47 l0_2 x7_1).r.isVar), .string ((rd_T47 l0_2 x7_1).r.name), .bool ((rd_T47 l0_2 x7_1).r.val.isSym), .string ((rd_T47 l0_2 x7_1).r.val.sym), .int .i64 ((rd_T47 l0_2 x7_1).r.val.n)] 47 (0, 0)) (by (with_reducible repeat (first | refine bN ?_ _ | refine bD ?_ | refine bA ?_ _)); exact BK105.out) hb); replace HB := am (below_step (by repeat (first | (with_reducible first | exact HB.out | apply lA | apply lN | apply lD | refine lS ?_ GE101.out | refine lS ?_ GE105.out) | exact HB.out)) hb); (try clear hb); (try clear hb2); (try clear hk); (try clear hi)))
        go_roundg k1
        case measure => have := HK1.out; omega
        case rel => exact ⟨(wrap64 (x7_1 + 1)), (by first | rfl | (simp; done) | (simp [*]; done)), H', ⟨by have := HK1.out; omega⟩, ⟨by (with_reducible repeat (first | refine bN ?_ _ | refine bD ?_ | refine bA ?_ _)); exact BK101.out⟩, ⟨by repeat (first | (with_reducible first | exact HB.out | apply lA | apply lN | apply lD | refine lS ?_ GE101.out | refine lS ?_ GE105.out) | exact HB.out)⟩⟩
      ·rw [if_neg c12] at H
       have c12b0 : (((rd_T47 l0_2 x7_1).kind) == 2) = false := beq_eq_false_iff_ne.mpr c12
       have c12b1 : (((rd_T47 l0_2 x7_1).kind) != 2) = true := bne_iff_ne.mpr c12
       by_cases c33 : ((rd_T47 l0_2 x7_1).kind) = 3
       ·rw [if_pos c33] at H
        have c33b0 : (((rd_T47 l0_2 x7_1).kind) == 3) = true := beq_iff_eq.mpr c33
        have c33b1 : (((rd_T47 l0_2 x7_1).kind) != 3) = false := bne_eq_false_iff_eq.mpr c33
        clear c33
        replace H := Option.bind_eq_some_iff.mp H
        obtain ⟨⟨t111, t112⟩, A340, H⟩ := H
        replace H : (if t112 = true then (some (t111, x7_1, 6)) else (lambrequinref09_Check.l0 k1 (wrap64 (x7_1 + 1)) a0_0 l0_1 l0_2)) = some (r1, r2, r3) := H
        have A34 := am A340
        clear A340
        by_cases c35 : t112 = true
        ·subst c35
         have H1 : (some (t111, x7_1, 6)) = some (r1, r2, r3) := by rw [if_pos rfl] at H; exact H
         clear H
         have H := H1
         clear H1
         simp only [Option.some.injEq, Prod.mk.injEq] at H
         obtain ⟨rfl, rfl, rfl⟩ := H
         have hcz36_0 : wr.cell? ⟨gb101, 0, none⟩ = some (.string a0_0) := (blk_cell BK101.out 0).trans rfl
         have hcz36_1 : wr.cell? ⟨gb101, 1, none⟩ = some (.slice A0_1 l0_1.length c0_1) := (blk_cell BK101.out 1).trans rfl
         have hcz36_2 : wr.cell? ⟨gb101, 2, none⟩ = some (.slice A0_2 l0_2.length c0_2) := (blk_cell BK101.out 2).trans rfl
         have hfz36_0 := blk_frozen BK101.out 0
         have hfz36_1 := blk_frozen BK101.out 1
         have hfz36_2 := blk_frozen BK101.out 2
         have p104 : 0 ≤ (x7_1 : Int) := of_decide_eq_true (by first | (with_reducible assumption) | assumption)
         have q104 : x7_1 < (l0_2.length : Int) := of_decide_eq_true (by first | (with_reducible assumption) | assumption)
         obtain ⟨ad104, A104_2, c104_2, e104, hx104_0, hx104_1, hx104_2, hx104_3, hx104_4, hx104_5, hx104_6, hx104_7, hx104_8, hx104_9, hx104_10, hx104_11, hx104_12, hx104_13, hl104_2, hi104_2⟩ := at_T47 HR0_2.out x7_1 p104 q104
         cases e104
         replace hx104_0 := (HB.out.cell (blt_ hx104_0)).trans hx104_0
         replace hx104_1 := (HB.out.cell (blt_ hx104_1)).trans hx104_1
         replace hx104_2 := (HB.out.cell (blt_ hx104_2)).trans hx104_2
         replace hx104_3 := (HB.out.cell (blt_ hx104_3)).trans hx104_3
         replace hx104_4 := (HB.out.cell (blt_ hx104_4)).trans hx104_4
         replace hx104_5 := (HB.out.cell (blt_ hx104_5)).trans hx104_5
         replace hx104_6 := (HB.out.cell (blt_ hx104_6)).trans hx104_6
         replace hx104_7 := (HB.out.cell (blt_ hx104_7)).trans hx104_7
         replace hx104_8 := (HB.out.cell (blt_ hx104_8)).trans hx104_8
         replace hx104_9 := (HB.out.cell (blt_ hx104_9)).trans hx104_9
         replace hx104_10 := (HB.out.cell (blt_ hx104_10)).trans hx104_10
         replace hx104_11 := (HB.out.cell (blt_ hx104_11)).trans hx104_11
         replace hx104_12 := (HB.out.cell (blt_ hx104_12)).trans hx104_12
         replace hx104_13 := (HB.out.cell (blt_ hx104_13)).trans hx104_13
         have HR104_2 := am hi104_2
         have HC104_2 := am hl104_2
         clear hi104_2 hl104_2
         replace p104 := eq_true p104
         replace q104 := eq_true q104
         go_wp2_with (first | ((with_reducible refine gate_dst (N := 8) rfl ?_); refine box_event ?hg (N := 8) ?hd (cs := #[.int .i64 0, .string (⟨#[]⟩ : ByteArray), .slice none 0 0, .string (⟨#[]⟩ : ByteArray), .bool false, .string (⟨#[]⟩ : ByteArray), .bool false, .string (⟨#[]⟩ : ByteArray), .int .i64 0, .bool false, .string (⟨#[]⟩ : ByteArray), .bool false, .string (⟨#[]⟩ : ByteArray), .int .i64 0]) (t := 47) ?hr ?_; (case hd => rfl); (case hg => rfl); (case hr => first | (go_simp; done) | (go_simp; rfl)); intro gb105 hg w37 hbox hb; have BK105 := am (hbox); have GW105 := am ((by rw [hg]; exact (below_size (by repeat (first | (with_reducible first | exact HB.out | apply lA | apply lN | apply lD | refine lS ?_ GE101.out) | exact HB.out))) : w.heap.size ≤ gb105)); have GE105 := am ((by rw [hg]; exact (below_size (by repeat (first | (with_reducible first | exact HB.out | apply lA | apply lN | apply lD | refine lS ?_ GE101.out) | exact HB.out))) : w.heap.size ≤ gb105)); replace HB := am (below_step (by repeat (first | (with_reducible first | exact HB.out | apply lA | apply lN | apply lD | refine lS ?_ GE101.out) | exact HB.out)) hb); have NB101_105 := am ((by rw [hg]; exact Nat.ne_of_lt (blk_lt (g := gb101) (o := .cells #[.string a0_0, .slice A0_1 l0_1.length c0_1, .slice (some ad104) l0_2.length c0_2] 27 (0, 0)) (by (with_reducible repeat (first | refine bN ?_ _ | refine bD ?_ | refine bA ?_ _)); exact BK101.out)) : gb101 ≠ gb105)); have NB105_101 := am ((by rw [hg]; exact Nat.ne_of_gt (blk_lt (g := gb101) (o := .cells #[.string a0_0, .slice A0_1 l0_1.length c0_1, .slice (some ad104) l0_2.length c0_2] 27 (0, 0)) (by (with_reducible repeat (first | refine bN ?_ _ | refine bD ?_ | refine bA ?_ _)); exact BK101.out)) : gb105 ≠ gb101)); replace BK101 := am (blk_below (g := gb101) (o := .cells #[.string a0_0, .slice A0_1 l0_1.length c0_1, .slice (some ad104) l0_2.length c0_2] 27 (0, 0)) (by (with_reducible repeat (first | refine bN ?_ _ | refine bD ?_ | refine bA ?_ _)); exact BK101.out) hb); clear hb hbox hg; have hnb38 := NB105_101.out; have hnc38 := NB101_105.out; have hcz39_0 : w37.cell? ⟨gb105, 0, none⟩ = some (.int .i64 0) := (blk_cell BK105.out 0).trans rfl; have hcz39_1 : w37.cell? ⟨gb105, 1, none⟩ = some (.string (⟨#[]⟩ : ByteArray)) := (blk_cell BK105.out 1).trans rfl; have hcz39_2 : w37.cell? ⟨gb105, 2, none⟩ = some (.slice none 0 0) := (blk_cell BK105.out 2).trans rfl; have hcz39_3 : w37.cell? ⟨gb105, 3, none⟩ = some (.string (⟨#[]⟩ : ByteArray)) := (blk_cell BK105.out 3).trans rfl; have hcz39_4 : w37.cell? ⟨gb105, 4, none⟩ = some (.bool false) := (blk_cell BK105.out 4).trans rfl; have hcz39_5 : w37.cell? ⟨gb105, 5, none⟩ = some (.string (⟨#[]⟩ : ByteArray)) := (blk_cell BK105.out 5).trans rfl; have hcz39_6 : w37.cell? ⟨gb105, 6, none⟩ = some (.bool false) := (blk_cell BK105.out 6).trans rfl; have hcz39_7 : w37.cell? ⟨gb105, 7, none⟩ = some (.string (⟨#[]⟩ : ByteArray)) := (blk_cell BK105.out 7).trans rfl; have hcz39_8 : w37.cell? ⟨gb105, 8, none⟩ = some (.int .i64 0) := (blk_cell BK105.out 8).trans rfl; have hcz39_9 : w37.cell? ⟨gb105, 9, none⟩ = some (.bool false) := (blk_cell BK105.out 9).trans rfl; have hcz39_10 : w37.cell? ⟨gb105, 10, none⟩ = some (.string (⟨#[]⟩ : ByteArray)) := (blk_cell BK105.out 10).trans rfl; have hcz39_11 : w37.cell? ⟨gb105, 11, none⟩ = some (.bool false) := (blk_cell BK105.out 11).trans rfl; have hcz39_12 : w37.cell? ⟨gb105, 12, none⟩ = some (.string (⟨#[]⟩ : ByteArray)) := (blk_cell BK105.out 12).trans rfl; have hcz39_13 : w37.cell? ⟨gb105, 13, none⟩ = some (.int .i64 0) := (blk_cell BK105.out 13).trans rfl; have hfz39_0 := blk_frozen BK105.out 0; have hfz39_1 := blk_frozen BK105.out 1; have hfz39_2 := blk_frozen BK105.out 2; have hfz39_3 := blk_frozen BK105.out 3; have hfz39_4 := blk_frozen BK105.out 4; have hfz39_5 := blk_frozen BK105.out 5; have hfz39_6 := blk_frozen BK105.out 6; have hfz39_7 := blk_frozen BK105.out 7; have hfz39_8 := blk_frozen BK105.out 8; have hfz39_9 := blk_frozen BK105.out 9; have hfz39_10 := blk_frozen BK105.out 10; have hfz39_11 := blk_frozen BK105.out 11; have hfz39_12 := blk_frozen BK105.out 12; have hfz39_13 := blk_frozen BK105.out 13) | ((with_reducible refine gate_dst (N := 38) rfl ?_); refine Kd.R_lit k45 _ 45 ?hg (N := 38) ?hd (xs := ([(⟨(rd_T47 l0_2 x7_1).l.isVar, (rd_T47 l0_2 x7_1).l.name, (⟨(rd_T47 l0_2 x7_1).l.val.isSym, (rd_T47 l0_2 x7_1).l.val.sym, (rd_T47 l0_2 x7_1).l.val.n⟩ : Val)⟩ : Term), (⟨(rd_T47 l0_2 x7_1).r.isVar, (rd_T47 l0_2 x7_1).r.name, (⟨(rd_T47 l0_2 x7_1).r.val.isSym, (rd_T47 l0_2 x7_1).r.val.sym, (rd_T47 l0_2 x7_1).r.val.n⟩ : Val)⟩ : Term)] : List (Term))) (inner := [.bool ((rd_T47 l0_2 x7_1).l.isVar), .string ((rd_T47 l0_2 x7_1).l.name), .bool ((rd_T47 l0_2 x7_1).l.val.isSym), .string ((rd_T47 l0_2 x7_1).l.val.sym), .int .i64 ((rd_T47 l0_2 x7_1).l.val.n), .bool ((rd_T47 l0_2 x7_1).r.isVar), .string ((rd_T47 l0_2 x7_1).r.name), .bool ((rd_T47 l0_2 x7_1).r.val.isSym), .string ((rd_T47 l0_2 x7_1).r.val.sym), .int .i64 ((rd_T47 l0_2 x7_1).r.val.n)]) (ok := fun _ => True) (okp := fun _ => True) ?hr ?hp (fun _ hk => hk) trivial (Below.refl _ _) (Nat.le_refl _) (by simp) ?_; (case hd => rfl); (case hg => rfl); (case hr => first | (go_simp; done) | (go_simp; rfl)); (case hp => exact (Reps.c5 (show Kd.M k45 _ _ _ (⟨(rd_T47 l0_2 x7_1).l.isVar, (rd_T47 l0_2 x7_1).l.name, (⟨(rd_T47 l0_2 x7_1).l.val.isSym, (rd_T47 l0_2 x7_1).l.val.sym, (rd_T47 l0_2 x7_1).l.val.n⟩ : Val)⟩ : Term) [.bool ((rd_T47 l0_2 x7_1).l.isVar), .string ((rd_T47 l0_2 x7_1).l.name), .bool ((rd_T47 l0_2 x7_1).l.val.isSym), .string ((rd_T47 l0_2 x7_1).l.val.sym), .int .i64 ((rd_T47 l0_2 x7_1).l.val.n)] from (k45_mkM _ _ _ (⟨(rd_T47 l0_2 x7_1).l.isVar, (rd_T47 l0_2 x7_1).l.name, (⟨(rd_T47 l0_2 x7_1).l.val.isSym, (rd_T47 l0_2 x7_1).l.val.sym, (rd_T47 l0_2 x7_1).l.val.n⟩ : Val)⟩ : Term) )) (Reps.c5 (show Kd.M k45 _ _ _ (⟨(rd_T47 l0_2 x7_1).r.isVar, (rd_T47 l0_2 x7_1).r.name, (⟨(rd_T47 l0_2 x7_1).r.val.isSym, (rd_T47 l0_2 x7_1).r.val.sym, (rd_T47 l0_2 x7_1).r.val.n⟩ : Val)⟩ : Term) [.bool ((rd_T47 l0_2 x7_1).r.isVar), .string ((rd_T47 l0_2 x7_1).r.name), .bool ((rd_T47 l0_2 x7_1).r.val.isSym), .string ((rd_T47 l0_2 x7_1).r.val.sym), .int .i64 ((rd_T47 l0_2 x7_1).r.val.n)] from (k45_mkM _ _ _ (⟨(rd_T47 l0_2 x7_1).r.isVar, (rd_T47 l0_2 x7_1).r.name, (⟨(rd_T47 l0_2 x7_1).r.val.isSym, (rd_T47 l0_2 x7_1).r.val.sym, (rd_T47 l0_2 x7_1).r.val.n⟩ : Val)⟩ : Term) )) (Reps.none _ _)))); intro v107 w40 ho41 hb hg_ hnew_; clear hg_ hnew_; (first | rw [← Ny106.out] at ho41 | (simp only [Int.reduceToNat] at ho41; rw [← Ny106.out] at ho41)); have HO108 := am (Kd.R_lower ho41 (below_size (by repeat (first | (with_reducible first | exact HB.out | apply lA | apply lN | apply lD | refine lS ?_ GE101.out | refine lS ?_ GE105.out) | exact HB.out)))); replace BK101 := am (blk_below (g := gb101) (o := .cells #[.string a0_0, .slice A0_1 l0_1.length c0_1, .slice (some ad104) l0_2.length c0_2] 27 (0, 0)) (by repeat (first | (with_reducible first | exact BK101.out | refine bN ?_ _ | refine bD ?_ | refine bA ?_ _) | refine blk_far ?_ NB101_105.out _ | exact BK101.out)) hb); replace BK105 := am (blk_below (g := gb105) (o := .cells #[.int .i64 ((rd_T47 l0_2 x7_1).kind), .string ((rd_T47 l0_2 x7_1).atom.pred), .slice A104_2 ((rd_T47 l0_2 x7_1).atom.args).length c104_2, .string ((rd_T47 l0_2 x7_1).op), .bool ((rd_T47 l0_2 x7_1).l.isVar), .string ((rd_T47 l0_2 x7_1).l.name), .bool ((rd_T47 l0_2 x7_1).l.val.isSym), .string ((rd_T47 l0_2 x7_1).l.val.sym), .int .i64 ((rd_T47 l0_2 x7_1).l.val.n), .bool ((rd_T47 l0_2 x7_1).r.isVar), .string ((rd_T47 l0_2 x7_1).r.name), .bool ((rd_T47 l0_2 x7_1).r.val.isSym), .string ((rd_T47 l0_2 x7_1).r.val.sym), .int .i64 ((rd_T47 l0_2 x7_1).r.val.n)] 47 (0, 0)) (by (with_reducible repeat (first | refine bN ?_ _ | refine bD ?_ | refine bA ?_ _)); refine blk_put (cs := #[.int .i64 ((rd_T47 l0_2 x7_1).kind), .string ((rd_T47 l0_2 x7_1).atom.pred), .slice A104_2 ((rd_T47 l0_2 x7_1).atom.args).length c104_2, .string ((rd_T47 l0_2 x7_1).op), .bool ((rd_T47 l0_2 x7_1).l.isVar), .string ((rd_T47 l0_2 x7_1).l.name), .bool ((rd_T47 l0_2 x7_1).l.val.isSym), .string ((rd_T47 l0_2 x7_1).l.val.sym), .int .i64 ((rd_T47 l0_2 x7_1).l.val.n), .bool ((rd_T47 l0_2 x7_1).r.isVar), .string ((rd_T47 l0_2 x7_1).r.name), .bool ((rd_T47 l0_2 x7_1).r.val.isSym), .string ((rd_T47 l0_2 x7_1).r.val.sym), .int .i64 0]) ?_ 13 _ rfl; (with_reducible repeat (first | refine bN ?_ _ | refine bD ?_ | refine bA ?_ _)); refine blk_put (cs := #[.int .i64 ((rd_T47 l0_2 x7_1).kind), .string ((rd_T47 l0_2 x7_1).atom.pred), .slice A104_2 ((rd_T47 l0_2 x7_1).atom.args).length c104_2, .string ((rd_T47 l0_2 x7_1).op), .bool ((rd_T47 l0_2 x7_1).l.isVar), .string ((rd_T47 l0_2 x7_1).l.name), .bool ((rd_T47 l0_2 x7_1).l.val.isSym), .string ((rd_T47 l0_2 x7_1).l.val.sym), .int .i64 ((rd_T47 l0_2 x7_1).l.val.n), .bool ((rd_T47 l0_2 x7_1).r.isVar), .string ((rd_T47 l0_2 x7_1).r.name), .bool ((rd_T47 l0_2 x7_1).r.val.isSym), .string (⟨#[]⟩ : ByteArray), .int .i64 0]) ?_ 12 _ rfl; (with_reducible repeat (first | refine bN ?_ _ | refine bD ?_ | refine bA ?_ _)); refine blk_put (cs := #[.int .i64 ((rd_T47 l0_2 x7_1).kind), .string ((rd_T47 l0_2 x7_1).atom.pred), .slice A104_2 ((rd_T47 l0_2 x7_1).atom.args).length c104_2, .string ((rd_T47 l0_2 x7_1).op), .bool ((rd_T47 l0_2 x7_1).l.isVar), .string ((rd_T47 l0_2 x7_1).l.name), .bool ((rd_T47 l0_2 x7_1).l.val.isSym), .string ((rd_T47 l0_2 x7_1).l.val.sym), .int .i64 ((rd_T47 l0_2 x7_1).l.val.n), .bool ((rd_T47 l0_2 x7_1).r.isVar), .string ((rd_T47 l0_2 x7_1).r.name), .bool false, .string (⟨#[]⟩ : ByteArray), .int .i64 0]) ?_ 11 _ rfl; (with_reducible repeat (first | refine bN ?_ _ | refine bD ?_ | refine bA ?_ _)); refine blk_put (cs := #[.int .i64 ((rd_T47 l0_2 x7_1).kind), .string ((rd_T47 l0_2 x7_1).atom.pred), .slice A104_2 ((rd_T47 l0_2 x7_1).atom.args).length c104_2, .string ((rd_T47 l0_2 x7_1).op), .bool ((rd_T47 l0_2 x7_1).l.isVar), .string ((rd_T47 l0_2 x7_1).l.name), .bool ((rd_T47 l0_2 x7_1).l.val.isSym), .string ((rd_T47 l0_2 x7_1).l.val.sym), .int .i64 ((rd_T47 l0_2 x7_1).l.val.n), .bool ((rd_T47 l0_2 x7_1).r.isVar), .string (⟨#[]⟩ : ByteArray), .bool false, .string (⟨#[]⟩ : ByteArray), .int .i64 0]) ?_ 10 _ rfl; (with_reducible repeat (first | refine bN ?_ _ | refine bD ?_ | refine bA ?_ _)); refine blk_put (cs := #[.int .i64 ((rd_T47 l0_2 x7_1).kind), .string ((rd_T47 l0_2 x7_1).atom.pred), .slice A104_2 ((rd_T47 l0_2 x7_1).atom.args).length c104_2, .string ((rd_T47 l0_2 x7_1).op), .bool ((rd_T47 l0_2 x7_1).l.isVar), .string ((rd_T47 l0_2 x7_1).l.name), .bool ((rd_T47 l0_2 x7_1).l.val.isSym), .string ((rd_T47 l0_2 x7_1).l.val.sym), .int .i64 ((rd_T47 l0_2 x7_1).l.val.n), .bool false, .string (⟨#[]⟩ : ByteArray), .bool false, .string (⟨#[]⟩ : ByteArray), .int .i64 0]) ?_ 9 _ rfl; (with_reducible repeat (first | refine bN ?_ _ | refine bD ?_ | refine bA ?_ _)); refine blk_put (cs := #[.int .i64 ((rd_T47 l0_2 x7_1).kind), .string ((rd_T47 l0_2 x7_1).atom.pred), .slice A104_2 ((rd_T47 l0_2 x7_1).atom.args).length c104_2, .string ((rd_T47 l0_2 x7_1).op), .bool ((rd_T47 l0_2 x7_1).l.isVar), .string ((rd_T47 l0_2 x7_1).l.name), .bool ((rd_T47 l0_2 x7_1).l.val.isSym), .string ((rd_T47 l0_2 x7_1).l.val.sym), .int .i64 0, .bool false, .string (⟨#[]⟩ : ByteArray), .bool false, .string (⟨#[]⟩ : ByteArray), .int .i64 0]) ?_ 8 _ rfl; (with_reducible repeat (first | refine bN ?_ _ | refine bD ?_ | refine bA ?_ _)); refine blk_put (cs := #[.int .i64 ((rd_T47 l0_2 x7_1).kind), .string ((rd_T47 l0_2 x7_1).atom.pred), .slice A104_2 ((rd_T47 l0_2 x7_1).atom.args).length c104_2, .string ((rd_T47 l0_2 x7_1).op), .bool ((rd_T47 l0_2 x7_1).l.isVar), .string ((rd_T47 l0_2 x7_1).l.name), .bool ((rd_T47 l0_2 x7_1).l.val.isSym), .string (⟨#[]⟩ : ByteArray), .int .i64 0, .bool false, .string (⟨#[]⟩ : ByteArray), .bool false, .string (⟨#[]⟩ : ByteArray), .int .i64 0]) ?_ 7 _ rfl; (with_reducible repeat (first | refine bN ?_ _ | refine bD ?_ | refine bA ?_ _)); refine blk_put (cs := #[.int .i64 ((rd_T47 l0_2 x7_1).kind), .string ((rd_T47 l0_2 x7_1).atom.pred), .slice A104_2 ((rd_T47 l0_2 x7_1).atom.args).length c104_2, .string ((rd_T47 l0_2 x7_1).op), .bool ((rd_T47 l0_2 x7_1).l.isVar), .string ((rd_T47 l0_2 x7_1).l.name), .bool false, .string (⟨#[]⟩ : ByteArray), .int .i64 0, .bool false, .string (⟨#[]⟩ : ByteArray), .bool false, .string (⟨#[]⟩ : ByteArray), .int .i64 0]) ?_ 6 _ rfl; (with_reducible repeat (first | refine bN ?_ _ | refine bD ?_ | refine bA ?_ _)); refine blk_put (cs := #[.int .i64 ((rd_T47 l0_2 x7_1).kind), .string ((rd_T47 l0_2 x7_1).atom.pred), .slice A104_2 ((rd_T47 l0_2 x7_1).atom.args).length c104_2, .string ((rd_T47 l0_2 x7_1).op), .bool ((rd_T47 l0_2 x7_1).l.isVar), .string (⟨#[]⟩ : ByteArray), .bool false, .string (⟨#[]⟩ : ByteArray), .int .i64 0, .bool false, .string (⟨#[]⟩ : ByteArray), .bool false, .string (⟨#[]⟩ : ByteArray), .int .i64 0]) ?_ 5 _ rfl; (with_reducible repeat (first | refine bN ?_ _ | refine bD ?_ | refine bA ?_ _)); refine blk_put (cs := #[.int .i64 ((rd_T47 l0_2 x7_1).kind), .string ((rd_T47 l0_2 x7_1).atom.pred), .slice A104_2 ((rd_T47 l0_2 x7_1).atom.args).length c104_2, .string ((rd_T47 l0_2 x7_1).op), .bool false, .string (⟨#[]⟩ : ByteArray), .bool false, .string (⟨#[]⟩ : ByteArray), .int .i64 0, .bool false, .string (⟨#[]⟩ : ByteArray), .bool false, .string (⟨#[]⟩ : ByteArray), .int .i64 0]) ?_ 4 _ rfl; (with_reducible repeat (first | refine bN ?_ _ | refine bD ?_ | refine bA ?_ _)); refine blk_put (cs := #[.int .i64 ((rd_T47 l0_2 x7_1).kind), .string ((rd_T47 l0_2 x7_1).atom.pred), .slice A104_2 ((rd_T47 l0_2 x7_1).atom.args).length c104_2, .string (⟨#[]⟩ : ByteArray), .bool false, .string (⟨#[]⟩ : ByteArray), .bool false, .string (⟨#[]⟩ : ByteArray), .int .i64 0, .bool false, .string (⟨#[]⟩ : ByteArray), .bool false, .string (⟨#[]⟩ : ByteArray), .int .i64 0]) ?_ 3 _ rfl; (with_reducible repeat (first | refine bN ?_ _ | refine bD ?_ | refine bA ?_ _)); refine blk_put (cs := #[.int .i64 ((rd_T47 l0_2 x7_1).kind), .string ((rd_T47 l0_2 x7_1).atom.pred), .slice none 0 0, .string (⟨#[]⟩ : ByteArray), .bool false, .string (⟨#[]⟩ : ByteArray), .bool false, .string (⟨#[]⟩ : ByteArray), .int .i64 0, .bool false, .string (⟨#[]⟩ : ByteArray), .bool false, .string (⟨#[]⟩ : ByteArray), .int .i64 0]) ?_ 2 _ rfl; (with_reducible repeat (first | refine bN ?_ _ | refine bD ?_ | refine bA ?_ _)); refine blk_put (cs := #[.int .i64 ((rd_T47 l0_2 x7_1).kind), .string (⟨#[]⟩ : ByteArray), .slice none 0 0, .string (⟨#[]⟩ : ByteArray), .bool false, .string (⟨#[]⟩ : ByteArray), .bool false, .string (⟨#[]⟩ : ByteArray), .int .i64 0, .bool false, .string (⟨#[]⟩ : ByteArray), .bool false, .string (⟨#[]⟩ : ByteArray), .int .i64 0]) ?_ 1 _ rfl; (with_reducible repeat (first | refine bN ?_ _ | refine bD ?_ | refine bA ?_ _)); refine blk_put (cs := #[.int .i64 0, .string (⟨#[]⟩ : ByteArray), .slice none 0 0, .string (⟨#[]⟩ : ByteArray), .bool false, .string (⟨#[]⟩ : ByteArray), .bool false, .string (⟨#[]⟩ : ByteArray), .int .i64 0, .bool false, .string (⟨#[]⟩ : ByteArray), .bool false, .string (⟨#[]⟩ : ByteArray), .int .i64 0]) ?_ 0 _ rfl; (with_reducible repeat (first | refine bN ?_ _ | refine bD ?_ | refine bA ?_ _)); exact BK105.out) hb); replace HB := am (below_step (by repeat (first | (with_reducible first | exact HB.out | apply lA | apply lN | apply lD | refine lS ?_ GE101.out | refine lS ?_ GE105.out) | exact HB.out)) hb); clear hb ho41; have hcz42_0 : w40.cell? ⟨gb105, 0, none⟩ = some (.int .i64 ((rd_T47 l0_2 x7_1).kind)) := (blk_cell BK105.out 0).trans rfl; have hcz42_1 : w40.cell? ⟨gb105, 1, none⟩ = some (.string ((rd_T47 l0_2 x7_1).atom.pred)) := (blk_cell BK105.out 1).trans rfl; have hcz42_2 : w40.cell? ⟨gb105, 2, none⟩ = some (.slice A104_2 ((rd_T47 l0_2 x7_1).atom.args).length c104_2) := (blk_cell BK105.out 2).trans rfl; have hcz42_3 : w40.cell? ⟨gb105, 3, none⟩ = some (.string ((rd_T47 l0_2 x7_1).op)) := (blk_cell BK105.out 3).trans rfl; have hcz42_4 : w40.cell? ⟨gb105, 4, none⟩ = some (.bool ((rd_T47 l0_2 x7_1).l.isVar)) := (blk_cell BK105.out 4).trans rfl; have hcz42_5 : w40.cell? ⟨gb105, 5, none⟩ = some (.string ((rd_T47 l0_2 x7_1).l.name)) := (blk_cell BK105.out 5).trans rfl; have hcz42_6 : w40.cell? ⟨gb105, 6, none⟩ = some (.bool ((rd_T47 l0_2 x7_1).l.val.isSym)) := (blk_cell BK105.out 6).trans rfl; have hcz42_7 : w40.cell? ⟨gb105, 7, none⟩ = some (.string ((rd_T47 l0_2 x7_1).l.val.sym)) := (blk_cell BK105.out 7).trans rfl; have hcz42_8 : w40.cell? ⟨gb105, 8, none⟩ = some (.int .i64 ((rd_T47 l0_2 x7_1).l.val.n)) := (blk_cell BK105.out 8).trans rfl; have hcz42_9 : w40.cell? ⟨gb105, 9, none⟩ = some (.bool ((rd_T47 l0_2 x7_1).r.isVar)) := (blk_cell BK105.out 9).trans rfl; have hcz42_10 : w40.cell? ⟨gb105, 10, none⟩ = some (.string ((rd_T47 l0_2 x7_1).r.name)) := (blk_cell BK105.out 10).trans rfl; have hcz42_11 : w40.cell? ⟨gb105, 11, none⟩ = some (.bool ((rd_T47 l0_2 x7_1).r.val.isSym)) := (blk_cell BK105.out 11).trans rfl; have hcz42_12 : w40.cell? ⟨gb105, 12, none⟩ = some (.string ((rd_T47 l0_2 x7_1).r.val.sym)) := (blk_cell BK105.out 12).trans rfl; have hcz42_13 : w40.cell? ⟨gb105, 13, none⟩ = some (.int .i64 ((rd_T47 l0_2 x7_1).r.val.n)) := (blk_cell BK105.out 13).trans rfl; have hfz42_0 := blk_frozen BK105.out 0; have hfz42_1 := blk_frozen BK105.out 1; have hfz42_2 := blk_frozen BK105.out 2; have hfz42_3 := blk_frozen BK105.out 3; have hfz42_4 := blk_frozen BK105.out 4; have hfz42_5 := blk_frozen BK105.out 5; have hfz42_6 := blk_frozen BK105.out 6; have hfz42_7 := blk_frozen BK105.out 7; have hfz42_8 := blk_frozen BK105.out 8; have hfz42_9 := blk_frozen BK105.out 9; have hfz42_10 := blk_frozen BK105.out 10; have hfz42_11 := blk_frozen BK105.out 11; have hfz42_12 := blk_frozen BK105.out 12; have hfz42_13 := blk_frozen BK105.out 13; have hcz43_0 : w40.cell? ⟨gb101, 0, none⟩ = some (.string a0_0) := (blk_cell BK101.out 0).trans rfl; have hcz43_1 : w40.cell? ⟨gb101, 1, none⟩ = some (.slice A0_1 l0_1.length c0_1) := (blk_cell BK101.out 1).trans rfl; have hcz43_2 : w40.cell? ⟨gb101, 2, none⟩ = some (.slice (some ad104) l0_2.length c0_2) := (blk_cell BK101.out 2).trans rfl; have hfz43_0 := blk_frozen BK101.out 0; have hfz43_1 := blk_frozen BK101.out 1; have hfz43_2 := blk_frozen BK101.out 2; obtain ⟨Ao44, co44, eo44⟩ := Kd.R_slice HO108.out; subst eo44) | ((with_reducible refine gate_callee (f := 52) rfl ?_); refine goesL_ (some 56) rfl rfl Try.func52 (by kernel_rfl) rfl #[.agg #[.string a0_0, .slice A0_1 l0_1.length c0_1, .slice (some ad104) l0_2.length c0_2], .slice Ao44 y106.length co44] rfl (by (try simp only [List.map_toArray, List.map_cons, List.map_nil]); first | done | rfl | (simp only [List.length_drop, List.length_take]; rfl)) ?_; (with_reducible refine (lambrequinref09_loose.calls k1 a0_0 _ _ l0_1 _ _ l0_2 _ _ y106 t111 true _ ?side1 ?side2 ?side3 ?side4 ?side5 ?side6 A34.out).mono ?_); (case side1 => repeat (first | exact (Kd.C_below HR0_1.out HB.out) | (with_reducible refine Kd.C_alloc ?_ _) | (with_reducible refine Kd.C_drewN ?_ _) | (with_reducible refine Kd.C_drew ?_))); (case side2 => exact HC0_1.out); (case side3 => repeat (first | exact (Kd.C_below HR0_2.out HB.out) | (with_reducible refine Kd.C_alloc ?_ _) | (with_reducible refine Kd.C_drewN ?_ _) | (with_reducible refine Kd.C_drew ?_))); (case side4 => exact HC0_2.out); (case side5 => repeat (first | exact (Kd.R_reads' HO108.out).2.2 | (with_reducible refine Kd.C_alloc ?_ _) | (with_reducible refine Kd.C_drewN ?_ _) | (with_reducible refine Kd.C_drew ?_))); (case side6 => exact (Kd.R_reads' HO108.out).2.1); rintro e w45 ⟨rfl, hb⟩; refine ⟨_, rfl, ?_⟩; replace HO108 := am (Kd.R_below (by (with_reducible repeat (first | apply Ra | apply Rn | apply Rd)); exact HO108.out) hb); replace BK101 := am (blk_below (g := gb101) (o := .cells #[.string a0_0, .slice A0_1 l0_1.length c0_1, .slice (some ad104) l0_2.length c0_2] 27 (0, 0)) (by (with_reducible repeat (first | refine bN ?_ _ | refine bD ?_ | refine bA ?_ _)); exact BK101.out) hb); replace BK105 := am (blk_below (g := gb105) (o := .cells #[.int .i64 ((rd_T47 l0_2 x7_1).kind), .string ((rd_T47 l0_2 x7_1).atom.pred), .slice A104_2 ((rd_T47 l0_2 x7_1).atom.args).length c104_2, .string ((rd_T47 l0_2 x7_1).op), .bool ((rd_T47 l0_2 x7_1).l.isVar), .string ((rd_T47 l0_2 x7_1).l.name), .bool ((rd_T47 l0_2 x7_1).l.val.isSym), .string ((rd_T47 l0_2 x7_1).l.val.sym), .int .i64 ((rd_T47 l0_2 x7_1).l.val.n), .bool ((rd_T47 l0_2 x7_1).r.isVar), .string ((rd_T47 l0_2 x7_1).r.name), .bool ((rd_T47 l0_2 x7_1).r.val.isSym), .string ((rd_T47 l0_2 x7_1).r.val.sym), .int .i64 ((rd_T47 l0_2 x7_1).r.val.n)] 47 (0, 0)) (by (with_reducible repeat (first | refine bN ?_ _ | refine bD ?_ | refine bA ?_ _)); exact BK105.out) hb); replace HB := am (below_step (by repeat (first | (with_reducible first | exact HB.out | apply lA | apply lN | apply lD | refine lS ?_ GE101.out | refine lS ?_ GE105.out) | exact HB.out)) hb); (try clear hb); (try clear hb2); (try clear hk); (try clear hi)))
         go_ret3
         exact ⟨by first | rfl | (simp [errW_none, errW_some] <;> rfl) | (simp [*, errW_none, errW_some] <;> rfl), by repeat (first | (with_reducible first | exact HB.out | apply lA | apply lN | apply lD | refine lS ?_ GE101.out | refine lS ?_ GE105.out) | exact HB.out)⟩
        ·replace c35 := Bool.eq_false_iff.mpr c35
         subst c35
         have H1 : (lambrequinref09_Check.l0 k1 (wrap64 (x7_1 + 1)) a0_0 l0_1 l0_2) = some (r1, r2, r3) := by rw [if_neg (show ¬ (false = true) by decide)] at H; exact H
         clear H
         have H := H1
         clear H1
         have H' := am H
         clear H
         have hcz46_0 : wr.cell? ⟨gb101, 0, none⟩ = some (.string a0_0) := (blk_cell BK101.out 0).trans rfl
         have hcz46_1 : wr.cell? ⟨gb101, 1, none⟩ = some (.slice A0_1 l0_1.length c0_1) := (blk_cell BK101.out 1).trans rfl
         have hcz46_2 : wr.cell? ⟨gb101, 2, none⟩ = some (.slice A0_2 l0_2.length c0_2) := (blk_cell BK101.out 2).trans rfl
         have hfz46_0 := blk_frozen BK101.out 0
         have hfz46_1 := blk_frozen BK101.out 1
         have hfz46_2 := blk_frozen BK101.out 2
         have p104 : 0 ≤ (x7_1 : Int) := of_decide_eq_true (by first | (with_reducible assumption) | assumption)
         have q104 : x7_1 < (l0_2.length : Int) := of_decide_eq_true (by first | (with_reducible assumption) | assumption)
         obtain ⟨ad104, A104_2, c104_2, e104, hx104_0, hx104_1, hx104_2, hx104_3, hx104_4, hx104_5, hx104_6, hx104_7, hx104_8, hx104_9, hx104_10, hx104_11, hx104_12, hx104_13, hl104_2, hi104_2⟩ := at_T47 HR0_2.out x7_1 p104 q104
         cases e104
         replace hx104_0 := (HB.out.cell (blt_ hx104_0)).trans hx104_0
         replace hx104_1 := (HB.out.cell (blt_ hx104_1)).trans hx104_1
         replace hx104_2 := (HB.out.cell (blt_ hx104_2)).trans hx104_2
         replace hx104_3 := (HB.out.cell (blt_ hx104_3)).trans hx104_3
         replace hx104_4 := (HB.out.cell (blt_ hx104_4)).trans hx104_4
         replace hx104_5 := (HB.out.cell (blt_ hx104_5)).trans hx104_5
         replace hx104_6 := (HB.out.cell (blt_ hx104_6)).trans hx104_6
         replace hx104_7 := (HB.out.cell (blt_ hx104_7)).trans hx104_7
         replace hx104_8 := (HB.out.cell (blt_ hx104_8)).trans hx104_8
         replace hx104_9 := (HB.out.cell (blt_ hx104_9)).trans hx104_9
         replace hx104_10 := (HB.out.cell (blt_ hx104_10)).trans hx104_10
         replace hx104_11 := (HB.out.cell (blt_ hx104_11)).trans hx104_11
         replace hx104_12 := (HB.out.cell (blt_ hx104_12)).trans hx104_12
         replace hx104_13 := (HB.out.cell (blt_ hx104_13)).trans hx104_13
         have HR104_2 := am hi104_2
         have HC104_2 := am hl104_2
         clear hi104_2 hl104_2
         replace p104 := eq_true p104
         replace q104 := eq_true q104
         go_wp2_with (first | ((with_reducible refine gate_dst (N := 8) rfl ?_); refine box_event ?hg (N := 8) ?hd (cs := #[.int .i64 0, .string (⟨#[]⟩ : ByteArray), .slice none 0 0, .string (⟨#[]⟩ : ByteArray), .bool false, .string (⟨#[]⟩ : ByteArray), .bool false, .string (⟨#[]⟩ : ByteArray), .int .i64 0, .bool false, .string (⟨#[]⟩ : ByteArray), .bool false, .string (⟨#[]⟩ : ByteArray), .int .i64 0]) (t := 47) ?hr ?_; (case hd => rfl); (case hg => rfl); (case hr => first | (go_simp; done) | (go_simp; rfl)); intro gb105 hg w47 hbox hb; have BK105 := am (hbox); have GW105 := am ((by rw [hg]; exact (below_size (by repeat (first | (with_reducible first | exact HB.out | apply lA | apply lN | apply lD | refine lS ?_ GE101.out) | exact HB.out))) : w.heap.size ≤ gb105)); have GE105 := am ((by rw [hg]; exact (below_size (by repeat (first | (with_reducible first | exact HB.out | apply lA | apply lN | apply lD | refine lS ?_ GE101.out) | exact HB.out))) : w.heap.size ≤ gb105)); replace HB := am (below_step (by repeat (first | (with_reducible first | exact HB.out | apply lA | apply lN | apply lD | refine lS ?_ GE101.out) | exact HB.out)) hb); have NB101_105 := am ((by rw [hg]; exact Nat.ne_of_lt (blk_lt (g := gb101) (o := .cells #[.string a0_0, .slice A0_1 l0_1.length c0_1, .slice (some ad104) l0_2.length c0_2] 27 (0, 0)) (by (with_reducible repeat (first | refine bN ?_ _ | refine bD ?_ | refine bA ?_ _)); exact BK101.out)) : gb101 ≠ gb105)); have NB105_101 := am ((by rw [hg]; exact Nat.ne_of_gt (blk_lt (g := gb101) (o := .cells #[.string a0_0, .slice A0_1 l0_1.length c0_1, .slice (some ad104) l0_2.length c0_2] 27 (0, 0)) (by (with_reducible repeat (first | refine bN ?_ _ | refine bD ?_ | refine bA ?_ _)); exact BK101.out)) : gb105 ≠ gb101)); replace BK101 := am (blk_below (g := gb101) (o := .cells #[.string a0_0, .slice A0_1 l0_1.length c0_1, .slice (some ad104) l0_2.length c0_2] 27 (0, 0)) (by (with_reducible repeat (first | refine bN ?_ _ | refine bD ?_ | refine bA ?_ _)); exact BK101.out) hb); clear hb hbox hg; have hnb48 := NB105_101.out; have hnc48 := NB101_105.out; have hcz49_0 : w47.cell? ⟨gb105, 0, none⟩ = some (.int .i64 0) := (blk_cell BK105.out 0).trans rfl; have hcz49_1 : w47.cell? ⟨gb105, 1, none⟩ = some (.string (⟨#[]⟩ : ByteArray)) := (blk_cell BK105.out 1).trans rfl; have hcz49_2 : w47.cell? ⟨gb105, 2, none⟩ = some (.slice none 0 0) := (blk_cell BK105.out 2).trans rfl; have hcz49_3 : w47.cell? ⟨gb105, 3, none⟩ = some (.string (⟨#[]⟩ : ByteArray)) := (blk_cell BK105.out 3).trans rfl; have hcz49_4 : w47.cell? ⟨gb105, 4, none⟩ = some (.bool false) := (blk_cell BK105.out 4).trans rfl; have hcz49_5 : w47.cell? ⟨gb105, 5, none⟩ = some (.string (⟨#[]⟩ : ByteArray)) := (blk_cell BK105.out 5).trans rfl; have hcz49_6 : w47.cell? ⟨gb105, 6, none⟩ = some (.bool false) := (blk_cell BK105.out 6).trans rfl; have hcz49_7 : w47.cell? ⟨gb105, 7, none⟩ = some (.string (⟨#[]⟩ : ByteArray)) := (blk_cell BK105.out 7).trans rfl; have hcz49_8 : w47.cell? ⟨gb105, 8, none⟩ = some (.int .i64 0) := (blk_cell BK105.out 8).trans rfl; have hcz49_9 : w47.cell? ⟨gb105, 9, none⟩ = some (.bool false) := (blk_cell BK105.out 9).trans rfl; have hcz49_10 : w47.cell? ⟨gb105, 10, none⟩ = some (.string (⟨#[]⟩ : ByteArray)) := (blk_cell BK105.out 10).trans rfl; have hcz49_11 : w47.cell? ⟨gb105, 11, none⟩ = some (.bool false) := (blk_cell BK105.out 11).trans rfl; have hcz49_12 : w47.cell? ⟨gb105, 12, none⟩ = some (.string (⟨#[]⟩ : ByteArray)) := (blk_cell BK105.out 12).trans rfl; have hcz49_13 : w47.cell? ⟨gb105, 13, none⟩ = some (.int .i64 0) := (blk_cell BK105.out 13).trans rfl; have hfz49_0 := blk_frozen BK105.out 0; have hfz49_1 := blk_frozen BK105.out 1; have hfz49_2 := blk_frozen BK105.out 2; have hfz49_3 := blk_frozen BK105.out 3; have hfz49_4 := blk_frozen BK105.out 4; have hfz49_5 := blk_frozen BK105.out 5; have hfz49_6 := blk_frozen BK105.out 6; have hfz49_7 := blk_frozen BK105.out 7; have hfz49_8 := blk_frozen BK105.out 8; have hfz49_9 := blk_frozen BK105.out 9; have hfz49_10 := blk_frozen BK105.out 10; have hfz49_11 := blk_frozen BK105.out 11; have hfz49_12 := blk_frozen BK105.out 12; have hfz49_13 := blk_frozen BK105.out 13) | ((with_reducible refine gate_dst (N := 38) rfl ?_); refine Kd.R_lit k45 _ 45 ?hg (N := 38) ?hd (xs := ([(⟨(rd_T47 l0_2 x7_1).l.isVar, (rd_T47 l0_2 x7_1).l.name, (⟨(rd_T47 l0_2 x7_1).l.val.isSym, (rd_T47 l0_2 x7_1).l.val.sym, (rd_T47 l0_2 x7_1).l.val.n⟩ : Val)⟩ : Term), (⟨(rd_T47 l0_2 x7_1).r.isVar, (rd_T47 l0_2 x7_1).r.name, (⟨(rd_T47 l0_2 x7_1).r.val.isSym, (rd_T47 l0_2 x7_1).r.val.sym, (rd_T47 l0_2 x7_1).r.val.n⟩ : Val)⟩ : Term)] : List (Term))) (inner := [.bool ((rd_T47 l0_2 x7_1).l.isVar), .string ((rd_T47 l0_2 x7_1).l.name), .bool ((rd_T47 l0_2 x7_1).l.val.isSym), .string ((rd_T47 l0_2 x7_1).l.val.sym), .int .i64 ((rd_T47 l0_2 x7_1).l.val.n), .bool ((rd_T47 l0_2 x7_1).r.isVar), .string ((rd_T47 l0_2 x7_1).r.name), .bool ((rd_T47 l0_2 x7_1).r.val.isSym), .string ((rd_T47 l0_2 x7_1).r.val.sym), .int .i64 ((rd_T47 l0_2 x7_1).r.val.n)]) (ok := fun _ => True) (okp := fun _ => True) ?hr ?hp (fun _ hk => hk) trivial (Below.refl _ _) (Nat.le_refl _) (by simp) ?_; (case hd => rfl); (case hg => rfl); (case hr => first | (go_simp; done) | (go_simp; rfl)); (case hp => exact (Reps.c5 (show Kd.M k45 _ _ _ (⟨(rd_T47 l0_2 x7_1).l.isVar, (rd_T47 l0_2 x7_1).l.name, (⟨(rd_T47 l0_2 x7_1).l.val.isSym, (rd_T47 l0_2 x7_1).l.val.sym, (rd_T47 l0_2 x7_1).l.val.n⟩ : Val)⟩ : Term) [.bool ((rd_T47 l0_2 x7_1).l.isVar), .string ((rd_T47 l0_2 x7_1).l.name), .bool ((rd_T47 l0_2 x7_1).l.val.isSym), .string ((rd_T47 l0_2 x7_1).l.val.sym), .int .i64 ((rd_T47 l0_2 x7_1).l.val.n)] from (k45_mkM _ _ _ (⟨(rd_T47 l0_2 x7_1).l.isVar, (rd_T47 l0_2 x7_1).l.name, (⟨(rd_T47 l0_2 x7_1).l.val.isSym, (rd_T47 l0_2 x7_1).l.val.sym, (rd_T47 l0_2 x7_1).l.val.n⟩ : Val)⟩ : Term) )) (Reps.c5 (show Kd.M k45 _ _ _ (⟨(rd_T47 l0_2 x7_1).r.isVar, (rd_T47 l0_2 x7_1).r.name, (⟨(rd_T47 l0_2 x7_1).r.val.isSym, (rd_T47 l0_2 x7_1).r.val.sym, (rd_T47 l0_2 x7_1).r.val.n⟩ : Val)⟩ : Term) [.bool ((rd_T47 l0_2 x7_1).r.isVar), .string ((rd_T47 l0_2 x7_1).r.name), .bool ((rd_T47 l0_2 x7_1).r.val.isSym), .string ((rd_T47 l0_2 x7_1).r.val.sym), .int .i64 ((rd_T47 l0_2 x7_1).r.val.n)] from (k45_mkM _ _ _ (⟨(rd_T47 l0_2 x7_1).r.isVar, (rd_T47 l0_2 x7_1).r.name, (⟨(rd_T47 l0_2 x7_1).r.val.isSym, (rd_T47 l0_2 x7_1).r.val.sym, (rd_T47 l0_2 x7_1).r.val.n⟩ : Val)⟩ : Term) )) (Reps.none _ _)))); intro v107 w50 ho51 hb hg_ hnew_; clear hg_ hnew_; (first | rw [← Ny106.out] at ho51 | (simp only [Int.reduceToNat] at ho51; rw [← Ny106.out] at ho51)); have HO108 := am (Kd.R_lower ho51 (below_size (by repeat (first | (with_reducible first | exact HB.out | apply lA | apply lN | apply lD | refine lS ?_ GE101.out | refine lS ?_ GE105.out) | exact HB.out)))); replace BK101 := am (blk_below (g := gb101) (o := .cells #[.string a0_0, .slice A0_1 l0_1.length c0_1, .slice (some ad104) l0_2.length c0_2] 27 (0, 0)) (by repeat (first | (with_reducible first | exact BK101.out | refine bN ?_ _ | refine bD ?_ | refine bA ?_ _) | refine blk_far ?_ NB101_105.out _ | exact BK101.out)) hb); replace BK105 := am (blk_below (g := gb105) (o := .cells #[.int .i64 ((rd_T47 l0_2 x7_1).kind), .string ((rd_T47 l0_2 x7_1).atom.pred), .slice A104_2 ((rd_T47 l0_2 x7_1).atom.args).length c104_2, .string ((rd_T47 l0_2 x7_1).op), .bool ((rd_T47 l0_2 x7_1).l.isVar), .string ((rd_T47 l0_2 x7_1).l.name), .bool ((rd_T47 l0_2 x7_1).l.val.isSym), .string ((rd_T47 l0_2 x7_1).l.val.sym), .int .i64 ((rd_T47 l0_2 x7_1).l.val.n), .bool ((rd_T47 l0_2 x7_1).r.isVar), .string ((rd_T47 l0_2 x7_1).r.name), .bool ((rd_T47 l0_2 x7_1).r.val.isSym), .string ((rd_T47 l0_2 x7_1).r.val.sym), .int .i64 ((rd_T47 l0_2 x7_1).r.val.n)] 47 (0, 0)) (by (with_reducible repeat (first | refine bN ?_ _ | refine bD ?_ | refine bA ?_ _)); refine blk_put (cs := #[.int .i64 ((rd_T47 l0_2 x7_1).kind), .string ((rd_T47 l0_2 x7_1).atom.pred), .slice A104_2 ((rd_T47 l0_2 x7_1).atom.args).length c104_2, .string ((rd_T47 l0_2 x7_1).op), .bool ((rd_T47 l0_2 x7_1).l.isVar), .string ((rd_T47 l0_2 x7_1).l.name), .bool ((rd_T47 l0_2 x7_1).l.val.isSym), .string ((rd_T47 l0_2 x7_1).l.val.sym), .int .i64 ((rd_T47 l0_2 x7_1).l.val.n), .bool ((rd_T47 l0_2 x7_1).r.isVar), .string ((rd_T47 l0_2 x7_1).r.name), .bool ((rd_T47 l0_2 x7_1).r.val.isSym), .string ((rd_T47 l0_2 x7_1).r.val.sym), .int .i64 0]) ?_ 13 _ rfl; (with_reducible repeat (first | refine bN ?_ _ | refine bD ?_ | refine bA ?_ _)); refine blk_put (cs := #[.int .i64 ((rd_T47 l0_2 x7_1).kind), .string ((rd_T47 l0_2 x7_1).atom.pred), .slice A104_2 ((rd_T47 l0_2 x7_1).atom.args).length c104_2, .string ((rd_T47 l0_2 x7_1).op), .bool ((rd_T47 l0_2 x7_1).l.isVar), .string ((rd_T47 l0_2 x7_1).l.name), .bool ((rd_T47 l0_2 x7_1).l.val.isSym), .string ((rd_T47 l0_2 x7_1).l.val.sym), .int .i64 ((rd_T47 l0_2 x7_1).l.val.n), .bool ((rd_T47 l0_2 x7_1).r.isVar), .string ((rd_T47 l0_2 x7_1).r.name), .bool ((rd_T47 l0_2 x7_1).r.val.isSym), .string (⟨#[]⟩ : ByteArray), .int .i64 0]) ?_ 12 _ rfl; (with_reducible repeat (first | refine bN ?_ _ | refine bD ?_ | refine bA ?_ _)); refine blk_put (cs := #[.int .i64 ((rd_T47 l0_2 x7_1).kind), .string ((rd_T47 l0_2 x7_1).atom.pred), .slice A104_2 ((rd_T47 l0_2 x7_1).atom.args).length c104_2, .string ((rd_T47 l0_2 x7_1).op), .bool ((rd_T47 l0_2 x7_1).l.isVar), .string ((rd_T47 l0_2 x7_1).l.name), .bool ((rd_T47 l0_2 x7_1).l.val.isSym), .string ((rd_T47 l0_2 x7_1).l.val.sym), .int .i64 ((rd_T47 l0_2 x7_1).l.val.n), .bool ((rd_T47 l0_2 x7_1).r.isVar), .string ((rd_T47 l0_2 x7_1).r.name), .bool false, .string (⟨#[]⟩ : ByteArray), .int .i64 0]) ?_ 11 _ rfl; (with_reducible repeat (first | refine bN ?_ _ | refine bD ?_ | refine bA ?_ _)); refine blk_put (cs := #[.int .i64 ((rd_T47 l0_2 x7_1).kind), .string ((rd_T47 l0_2 x7_1).atom.pred), .slice A104_2 ((rd_T47 l0_2 x7_1).atom.args).length c104_2, .string ((rd_T47 l0_2 x7_1).op), .bool ((rd_T47 l0_2 x7_1).l.isVar), .string ((rd_T47 l0_2 x7_1).l.name), .bool ((rd_T47 l0_2 x7_1).l.val.isSym), .string ((rd_T47 l0_2 x7_1).l.val.sym), .int .i64 ((rd_T47 l0_2 x7_1).l.val.n), .bool ((rd_T47 l0_2 x7_1).r.isVar), .string (⟨#[]⟩ : ByteArray), .bool false, .string (⟨#[]⟩ : ByteArray), .int .i64 0]) ?_ 10 _ rfl; (with_reducible repeat (first | refine bN ?_ _ | refine bD ?_ | refine bA ?_ _)); refine blk_put (cs := #[.int .i64 ((rd_T47 l0_2 x7_1).kind), .string ((rd_T47 l0_2 x7_1).atom.pred), .slice A104_2 ((rd_T47 l0_2 x7_1).atom.args).length c104_2, .string ((rd_T47 l0_2 x7_1).op), .bool ((rd_T47 l0_2 x7_1).l.isVar), .string ((rd_T47 l0_2 x7_1).l.name), .bool ((rd_T47 l0_2 x7_1).l.val.isSym), .string ((rd_T47 l0_2 x7_1).l.val.sym), .int .i64 ((rd_T47 l0_2 x7_1).l.val.n), .bool false, .string (⟨#[]⟩ : ByteArray), .bool false, .string (⟨#[]⟩ : ByteArray), .int .i64 0]) ?_ 9 _ rfl; (with_reducible repeat (first | refine bN ?_ _ | refine bD ?_ | refine bA ?_ _)); refine blk_put (cs := #[.int .i64 ((rd_T47 l0_2 x7_1).kind), .string ((rd_T47 l0_2 x7_1).atom.pred), .slice A104_2 ((rd_T47 l0_2 x7_1).atom.args).length c104_2, .string ((rd_T47 l0_2 x7_1).op), .bool ((rd_T47 l0_2 x7_1).l.isVar), .string ((rd_T47 l0_2 x7_1).l.name), .bool ((rd_T47 l0_2 x7_1).l.val.isSym), .string ((rd_T47 l0_2 x7_1).l.val.sym), .int .i64 0, .bool false, .string (⟨#[]⟩ : ByteArray), .bool false, .string (⟨#[]⟩ : ByteArray), .int .i64 0]) ?_ 8 _ rfl; (with_reducible repeat (first | refine bN ?_ _ | refine bD ?_ | refine bA ?_ _)); refine blk_put (cs := #[.int .i64 ((rd_T47 l0_2 x7_1).kind), .string ((rd_T47 l0_2 x7_1).atom.pred), .slice A104_2 ((rd_T47 l0_2 x7_1).atom.args).length c104_2, .string ((rd_T47 l0_2 x7_1).op), .bool ((rd_T47 l0_2 x7_1).l.isVar), .string ((rd_T47 l0_2 x7_1).l.name), .bool ((rd_T47 l0_2 x7_1).l.val.isSym), .string (⟨#[]⟩ : ByteArray), .int .i64 0, .bool false, .string (⟨#[]⟩ : ByteArray), .bool false, .string (⟨#[]⟩ : ByteArray), .int .i64 0]) ?_ 7 _ rfl; (with_reducible repeat (first | refine bN ?_ _ | refine bD ?_ | refine bA ?_ _)); refine blk_put (cs := #[.int .i64 ((rd_T47 l0_2 x7_1).kind), .string ((rd_T47 l0_2 x7_1).atom.pred), .slice A104_2 ((rd_T47 l0_2 x7_1).atom.args).length c104_2, .string ((rd_T47 l0_2 x7_1).op), .bool ((rd_T47 l0_2 x7_1).l.isVar), .string ((rd_T47 l0_2 x7_1).l.name), .bool false, .string (⟨#[]⟩ : ByteArray), .int .i64 0, .bool false, .string (⟨#[]⟩ : ByteArray), .bool false, .string (⟨#[]⟩ : ByteArray), .int .i64 0]) ?_ 6 _ rfl; (with_reducible repeat (first | refine bN ?_ _ | refine bD ?_ | refine bA ?_ _)); refine blk_put (cs := #[.int .i64 ((rd_T47 l0_2 x7_1).kind), .string ((rd_T47 l0_2 x7_1).atom.pred), .slice A104_2 ((rd_T47 l0_2 x7_1).atom.args).length c104_2, .string ((rd_T47 l0_2 x7_1).op), .bool ((rd_T47 l0_2 x7_1).l.isVar), .string (⟨#[]⟩ : ByteArray), .bool false, .string (⟨#[]⟩ : ByteArray), .int .i64 0, .bool false, .string (⟨#[]⟩ : ByteArray), .bool false, .string (⟨#[]⟩ : ByteArray), .int .i64 0]) ?_ 5 _ rfl; (with_reducible repeat (first | refine bN ?_ _ | refine bD ?_ | refine bA ?_ _)); refine blk_put (cs := #[.int .i64 ((rd_T47 l0_2 x7_1).kind), .string ((rd_T47 l0_2 x7_1).atom.pred), .slice A104_2 ((rd_T47 l0_2 x7_1).atom.args).length c104_2, .string ((rd_T47 l0_2 x7_1).op), .bool false, .string (⟨#[]⟩ : ByteArray), .bool false, .string (⟨#[]⟩ : ByteArray), .int .i64 0, .bool false, .string (⟨#[]⟩ : ByteArray), .bool false, .string (⟨#[]⟩ : ByteArray), .int .i64 0]) ?_ 4 _ rfl; (with_reducible repeat (first | refine bN ?_ _ | refine bD ?_ | refine bA ?_ _)); refine blk_put (cs := #[.int .i64 ((rd_T47 l0_2 x7_1).kind), .string ((rd_T47 l0_2 x7_1).atom.pred), .slice A104_2 ((rd_T47 l0_2 x7_1).atom.args).length c104_2, .string (⟨#[]⟩ : ByteArray), .bool false, .string (⟨#[]⟩ : ByteArray), .bool false, .string (⟨#[]⟩ : ByteArray), .int .i64 0, .bool false, .string (⟨#[]⟩ : ByteArray), .bool false, .string (⟨#[]⟩ : ByteArray), .int .i64 0]) ?_ 3 _ rfl; (with_reducible repeat (first | refine bN ?_ _ | refine bD ?_ | refine bA ?_ _)); refine blk_put (cs := #[.int .i64 ((rd_T47 l0_2 x7_1).kind), .string ((rd_T47 l0_2 x7_1).atom.pred), .slice none 0 0, .string (⟨#[]⟩ : ByteArray), .bool false, .string (⟨#[]⟩ : ByteArray), .bool false, .string (⟨#[]⟩ : ByteArray), .int .i64 0, .bool false, .string (⟨#[]⟩ : ByteArray), .bool false, .string (⟨#[]⟩ : ByteArray), .int .i64 0]) ?_ 2 _ rfl; (with_reducible repeat (first | refine bN ?_ _ | refine bD ?_ | refine bA ?_ _)); refine blk_put (cs := #[.int .i64 ((rd_T47 l0_2 x7_1).kind), .string (⟨#[]⟩ : ByteArray), .slice none 0 0, .string (⟨#[]⟩ : ByteArray), .bool false, .string (⟨#[]⟩ : ByteArray), .bool false, .string (⟨#[]⟩ : ByteArray), .int .i64 0, .bool false, .string (⟨#[]⟩ : ByteArray), .bool false, .string (⟨#[]⟩ : ByteArray), .int .i64 0]) ?_ 1 _ rfl; (with_reducible repeat (first | refine bN ?_ _ | refine bD ?_ | refine bA ?_ _)); refine blk_put (cs := #[.int .i64 0, .string (⟨#[]⟩ : ByteArray), .slice none 0 0, .string (⟨#[]⟩ : ByteArray), .bool false, .string (⟨#[]⟩ : ByteArray), .bool false, .string (⟨#[]⟩ : ByteArray), .int .i64 0, .bool false, .string (⟨#[]⟩ : ByteArray), .bool false, .string (⟨#[]⟩ : ByteArray), .int .i64 0]) ?_ 0 _ rfl; (with_reducible repeat (first | refine bN ?_ _ | refine bD ?_ | refine bA ?_ _)); exact BK105.out) hb); replace HB := am (below_step (by repeat (first | (with_reducible first | exact HB.out | apply lA | apply lN | apply lD | refine lS ?_ GE101.out | refine lS ?_ GE105.out) | exact HB.out)) hb); clear hb ho51; have hcz52_0 : w50.cell? ⟨gb105, 0, none⟩ = some (.int .i64 ((rd_T47 l0_2 x7_1).kind)) := (blk_cell BK105.out 0).trans rfl; have hcz52_1 : w50.cell? ⟨gb105, 1, none⟩ = some (.string ((rd_T47 l0_2 x7_1).atom.pred)) := (blk_cell BK105.out 1).trans rfl; have hcz52_2 : w50.cell? ⟨gb105, 2, none⟩ = some (.slice A104_2 ((rd_T47 l0_2 x7_1).atom.args).length c104_2) := (blk_cell BK105.out 2).trans rfl; have hcz52_3 : w50.cell? ⟨gb105, 3, none⟩ = some (.string ((rd_T47 l0_2 x7_1).op)) := (blk_cell BK105.out 3).trans rfl; have hcz52_4 : w50.cell? ⟨gb105, 4, none⟩ = some (.bool ((rd_T47 l0_2 x7_1).l.isVar)) := (blk_cell BK105.out 4).trans rfl; have hcz52_5 : w50.cell? ⟨gb105, 5, none⟩ = some (.string ((rd_T47 l0_2 x7_1).l.name)) := (blk_cell BK105.out 5).trans rfl; have hcz52_6 : w50.cell? ⟨gb105, 6, none⟩ = some (.bool ((rd_T47 l0_2 x7_1).l.val.isSym)) := (blk_cell BK105.out 6).trans rfl; have hcz52_7 : w50.cell? ⟨gb105, 7, none⟩ = some (.string ((rd_T47 l0_2 x7_1).l.val.sym)) := (blk_cell BK105.out 7).trans rfl; have hcz52_8 : w50.cell? ⟨gb105, 8, none⟩ = some (.int .i64 ((rd_T47 l0_2 x7_1).l.val.n)) := (blk_cell BK105.out 8).trans rfl; have hcz52_9 : w50.cell? ⟨gb105, 9, none⟩ = some (.bool ((rd_T47 l0_2 x7_1).r.isVar)) := (blk_cell BK105.out 9).trans rfl; have hcz52_10 : w50.cell? ⟨gb105, 10, none⟩ = some (.string ((rd_T47 l0_2 x7_1).r.name)) := (blk_cell BK105.out 10).trans rfl; have hcz52_11 : w50.cell? ⟨gb105, 11, none⟩ = some (.bool ((rd_T47 l0_2 x7_1).r.val.isSym)) := (blk_cell BK105.out 11).trans rfl; have hcz52_12 : w50.cell? ⟨gb105, 12, none⟩ = some (.string ((rd_T47 l0_2 x7_1).r.val.sym)) := (blk_cell BK105.out 12).trans rfl; have hcz52_13 : w50.cell? ⟨gb105, 13, none⟩ = some (.int .i64 ((rd_T47 l0_2 x7_1).r.val.n)) := (blk_cell BK105.out 13).trans rfl; have hfz52_0 := blk_frozen BK105.out 0; have hfz52_1 := blk_frozen BK105.out 1; have hfz52_2 := blk_frozen BK105.out 2; have hfz52_3 := blk_frozen BK105.out 3; have hfz52_4 := blk_frozen BK105.out 4; have hfz52_5 := blk_frozen BK105.out 5; have hfz52_6 := blk_frozen BK105.out 6; have hfz52_7 := blk_frozen BK105.out 7; have hfz52_8 := blk_frozen BK105.out 8; have hfz52_9 := blk_frozen BK105.out 9; have hfz52_10 := blk_frozen BK105.out 10; have hfz52_11 := blk_frozen BK105.out 11; have hfz52_12 := blk_frozen BK105.out 12; have hfz52_13 := blk_frozen BK105.out 13; have hcz53_0 : w50.cell? ⟨gb101, 0, none⟩ = some (.string a0_0) := (blk_cell BK101.out 0).trans rfl; have hcz53_1 : w50.cell? ⟨gb101, 1, none⟩ = some (.slice A0_1 l0_1.length c0_1) := (blk_cell BK101.out 1).trans rfl; have hcz53_2 : w50.cell? ⟨gb101, 2, none⟩ = some (.slice (some ad104) l0_2.length c0_2) := (blk_cell BK101.out 2).trans rfl; have hfz53_0 := blk_frozen BK101.out 0; have hfz53_1 := blk_frozen BK101.out 1; have hfz53_2 := blk_frozen BK101.out 2; obtain ⟨Ao54, co54, eo54⟩ := Kd.R_slice HO108.out; subst eo54) | ((with_reducible refine gate_callee (f := 52) rfl ?_); refine goesL_ (some 56) rfl rfl Try.func52 (by kernel_rfl) rfl #[.agg #[.string a0_0, .slice A0_1 l0_1.length c0_1, .slice (some ad104) l0_2.length c0_2], .slice Ao54 y106.length co54] rfl (by (try simp only [List.map_toArray, List.map_cons, List.map_nil]); first | done | rfl | (simp only [List.length_drop, List.length_take]; rfl)) ?_; (with_reducible refine (lambrequinref09_loose.calls k1 a0_0 _ _ l0_1 _ _ l0_2 _ _ y106 t111 false _ ?side1 ?side2 ?side3 ?side4 ?side5 ?side6 A34.out).mono ?_); (case side1 => repeat (first | exact (Kd.C_below HR0_1.out HB.out) | (with_reducible refine Kd.C_alloc ?_ _) | (with_reducible refine Kd.C_drewN ?_ _) | (with_reducible refine Kd.C_drew ?_))); (case side2 => exact HC0_1.out); (case side3 => repeat (first | exact (Kd.C_below HR0_2.out HB.out) | (with_reducible refine Kd.C_alloc ?_ _) | (with_reducible refine Kd.C_drewN ?_ _) | (with_reducible refine Kd.C_drew ?_))); (case side4 => exact HC0_2.out); (case side5 => repeat (first | exact (Kd.R_reads' HO108.out).2.2 | (with_reducible refine Kd.C_alloc ?_ _) | (with_reducible refine Kd.C_drewN ?_ _) | (with_reducible refine Kd.C_drew ?_))); (case side6 => exact (Kd.R_reads' HO108.out).2.1); rintro e w55 ⟨rfl, hb⟩; refine ⟨_, rfl, ?_⟩; replace HO108 := am (Kd.R_below (by (with_reducible repeat (first | apply Ra | apply Rn | apply Rd)); exact HO108.out) hb); replace BK101 := am (blk_below (g := gb101) (o := .cells #[.string a0_0, .slice A0_1 l0_1.length c0_1, .slice (some ad104) l0_2.length c0_2] 27 (0, 0)) (by (with_reducible repeat (first | refine bN ?_ _ | refine bD ?_ | refine bA ?_ _)); exact BK101.out) hb); replace BK105 := am (blk_below (g := gb105) (o := .cells #[.int .i64 ((rd_T47 l0_2 x7_1).kind), .string ((rd_T47 l0_2 x7_1).atom.pred), .slice A104_2 ((rd_T47 l0_2 x7_1).atom.args).length c104_2, .string ((rd_T47 l0_2 x7_1).op), .bool ((rd_T47 l0_2 x7_1).l.isVar), .string ((rd_T47 l0_2 x7_1).l.name), .bool ((rd_T47 l0_2 x7_1).l.val.isSym), .string ((rd_T47 l0_2 x7_1).l.val.sym), .int .i64 ((rd_T47 l0_2 x7_1).l.val.n), .bool ((rd_T47 l0_2 x7_1).r.isVar), .string ((rd_T47 l0_2 x7_1).r.name), .bool ((rd_T47 l0_2 x7_1).r.val.isSym), .string ((rd_T47 l0_2 x7_1).r.val.sym), .int .i64 ((rd_T47 l0_2 x7_1).r.val.n)] 47 (0, 0)) (by (with_reducible repeat (first | refine bN ?_ _ | refine bD ?_ | refine bA ?_ _)); exact BK105.out) hb); replace HB := am (below_step (by repeat (first | (with_reducible first | exact HB.out | apply lA | apply lN | apply lD | refine lS ?_ GE101.out | refine lS ?_ GE105.out) | exact HB.out)) hb); (try clear hb); (try clear hb2); (try clear hk); (try clear hi)))
         go_roundg k1
         case measure => have := HK1.out; omega
         case rel => exact ⟨(wrap64 (x7_1 + 1)), (by first | rfl | (simp; done) | (simp [*]; done)), H', ⟨by have := HK1.out; omega⟩, ⟨by (with_reducible repeat (first | refine bN ?_ _ | refine bD ?_ | refine bA ?_ _)); exact BK101.out⟩, ⟨by repeat (first | (with_reducible first | exact HB.out | apply lA | apply lN | apply lD | refine lS ?_ GE101.out | refine lS ?_ GE105.out) | exact HB.out)⟩⟩
       ·rw [if_neg c33] at H
        have c33b0 : (((rd_T47 l0_2 x7_1).kind) == 3) = false := beq_eq_false_iff_ne.mpr c33
        have c33b1 : (((rd_T47 l0_2 x7_1).kind) != 3) = true := bne_iff_ne.mpr c33
        have H' := am H
        clear H
        have hcz56_0 : wr.cell? ⟨gb101, 0, none⟩ = some (.string a0_0) := (blk_cell BK101.out 0).trans rfl
        have hcz56_1 : wr.cell? ⟨gb101, 1, none⟩ = some (.slice A0_1 l0_1.length c0_1) := (blk_cell BK101.out 1).trans rfl
        have hcz56_2 : wr.cell? ⟨gb101, 2, none⟩ = some (.slice A0_2 l0_2.length c0_2) := (blk_cell BK101.out 2).trans rfl
        have hfz56_0 := blk_frozen BK101.out 0
        have hfz56_1 := blk_frozen BK101.out 1
        have hfz56_2 := blk_frozen BK101.out 2
        have p104 : 0 ≤ (x7_1 : Int) := of_decide_eq_true (by first | (with_reducible assumption) | assumption)
        have q104 : x7_1 < (l0_2.length : Int) := of_decide_eq_true (by first | (with_reducible assumption) | assumption)
        obtain ⟨ad104, A104_2, c104_2, e104, hx104_0, hx104_1, hx104_2, hx104_3, hx104_4, hx104_5, hx104_6, hx104_7, hx104_8, hx104_9, hx104_10, hx104_11, hx104_12, hx104_13, hl104_2, hi104_2⟩ := at_T47 HR0_2.out x7_1 p104 q104
        cases e104
        replace hx104_0 := (HB.out.cell (blt_ hx104_0)).trans hx104_0
        replace hx104_1 := (HB.out.cell (blt_ hx104_1)).trans hx104_1
        replace hx104_2 := (HB.out.cell (blt_ hx104_2)).trans hx104_2
        replace hx104_3 := (HB.out.cell (blt_ hx104_3)).trans hx104_3
        replace hx104_4 := (HB.out.cell (blt_ hx104_4)).trans hx104_4
        replace hx104_5 := (HB.out.cell (blt_ hx104_5)).trans hx104_5
        replace hx104_6 := (HB.out.cell (blt_ hx104_6)).trans hx104_6
        replace hx104_7 := (HB.out.cell (blt_ hx104_7)).trans hx104_7
        replace hx104_8 := (HB.out.cell (blt_ hx104_8)).trans hx104_8
        replace hx104_9 := (HB.out.cell (blt_ hx104_9)).trans hx104_9
        replace hx104_10 := (HB.out.cell (blt_ hx104_10)).trans hx104_10
        replace hx104_11 := (HB.out.cell (blt_ hx104_11)).trans hx104_11
        replace hx104_12 := (HB.out.cell (blt_ hx104_12)).trans hx104_12
        replace hx104_13 := (HB.out.cell (blt_ hx104_13)).trans hx104_13
        have HR104_2 := am hi104_2
        have HC104_2 := am hl104_2
        clear hi104_2 hl104_2
        replace p104 := eq_true p104
        replace q104 := eq_true q104
        go_wp2_with (first | ((with_reducible refine gate_dst (N := 8) rfl ?_); refine box_event ?hg (N := 8) ?hd (cs := #[.int .i64 0, .string (⟨#[]⟩ : ByteArray), .slice none 0 0, .string (⟨#[]⟩ : ByteArray), .bool false, .string (⟨#[]⟩ : ByteArray), .bool false, .string (⟨#[]⟩ : ByteArray), .int .i64 0, .bool false, .string (⟨#[]⟩ : ByteArray), .bool false, .string (⟨#[]⟩ : ByteArray), .int .i64 0]) (t := 47) ?hr ?_; (case hd => rfl); (case hg => rfl); (case hr => first | (go_simp; done) | (go_simp; rfl)); intro gb105 hg w57 hbox hb; have BK105 := am (hbox); have GW105 := am ((by rw [hg]; exact (below_size (by repeat (first | (with_reducible first | exact HB.out | apply lA | apply lN | apply lD | refine lS ?_ GE101.out) | exact HB.out))) : w.heap.size ≤ gb105)); have GE105 := am ((by rw [hg]; exact (below_size (by repeat (first | (with_reducible first | exact HB.out | apply lA | apply lN | apply lD | refine lS ?_ GE101.out) | exact HB.out))) : w.heap.size ≤ gb105)); replace HB := am (below_step (by repeat (first | (with_reducible first | exact HB.out | apply lA | apply lN | apply lD | refine lS ?_ GE101.out) | exact HB.out)) hb); have NB101_105 := am ((by rw [hg]; exact Nat.ne_of_lt (blk_lt (g := gb101) (o := .cells #[.string a0_0, .slice A0_1 l0_1.length c0_1, .slice (some ad104) l0_2.length c0_2] 27 (0, 0)) (by (with_reducible repeat (first | refine bN ?_ _ | refine bD ?_ | refine bA ?_ _)); exact BK101.out)) : gb101 ≠ gb105)); have NB105_101 := am ((by rw [hg]; exact Nat.ne_of_gt (blk_lt (g := gb101) (o := .cells #[.string a0_0, .slice A0_1 l0_1.length c0_1, .slice (some ad104) l0_2.length c0_2] 27 (0, 0)) (by (with_reducible repeat (first | refine bN ?_ _ | refine bD ?_ | refine bA ?_ _)); exact BK101.out)) : gb105 ≠ gb101)); replace BK101 := am (blk_below (g := gb101) (o := .cells #[.string a0_0, .slice A0_1 l0_1.length c0_1, .slice (some ad104) l0_2.length c0_2] 27 (0, 0)) (by (with_reducible repeat (first | refine bN ?_ _ | refine bD ?_ | refine bA ?_ _)); exact BK101.out) hb); clear hb hbox hg; have hnb58 := NB105_101.out; have hnc58 := NB101_105.out; have hcz59_0 : w57.cell? ⟨gb105, 0, none⟩ = some (.int .i64 0) := (blk_cell BK105.out 0).trans rfl; have hcz59_1 : w57.cell? ⟨gb105, 1, none⟩ = some (.string (⟨#[]⟩ : ByteArray)) := (blk_cell BK105.out 1).trans rfl; have hcz59_2 : w57.cell? ⟨gb105, 2, none⟩ = some (.slice none 0 0) := (blk_cell BK105.out 2).trans rfl; have hcz59_3 : w57.cell? ⟨gb105, 3, none⟩ = some (.string (⟨#[]⟩ : ByteArray)) := (blk_cell BK105.out 3).trans rfl; have hcz59_4 : w57.cell? ⟨gb105, 4, none⟩ = some (.bool false) := (blk_cell BK105.out 4).trans rfl; have hcz59_5 : w57.cell? ⟨gb105, 5, none⟩ = some (.string (⟨#[]⟩ : ByteArray)) := (blk_cell BK105.out 5).trans rfl; have hcz59_6 : w57.cell? ⟨gb105, 6, none⟩ = some (.bool false) := (blk_cell BK105.out 6).trans rfl; have hcz59_7 : w57.cell? ⟨gb105, 7, none⟩ = some (.string (⟨#[]⟩ : ByteArray)) := (blk_cell BK105.out 7).trans rfl; have hcz59_8 : w57.cell? ⟨gb105, 8, none⟩ = some (.int .i64 0) := (blk_cell BK105.out 8).trans rfl; have hcz59_9 : w57.cell? ⟨gb105, 9, none⟩ = some (.bool false) := (blk_cell BK105.out 9).trans rfl; have hcz59_10 : w57.cell? ⟨gb105, 10, none⟩ = some (.string (⟨#[]⟩ : ByteArray)) := (blk_cell BK105.out 10).trans rfl; have hcz59_11 : w57.cell? ⟨gb105, 11, none⟩ = some (.bool false) := (blk_cell BK105.out 11).trans rfl; have hcz59_12 : w57.cell? ⟨gb105, 12, none⟩ = some (.string (⟨#[]⟩ : ByteArray)) := (blk_cell BK105.out 12).trans rfl; have hcz59_13 : w57.cell? ⟨gb105, 13, none⟩ = some (.int .i64 0) := (blk_cell BK105.out 13).trans rfl; have hfz59_0 := blk_frozen BK105.out 0; have hfz59_1 := blk_frozen BK105.out 1; have hfz59_2 := blk_frozen BK105.out 2; have hfz59_3 := blk_frozen BK105.out 3; have hfz59_4 := blk_frozen BK105.out 4; have hfz59_5 := blk_frozen BK105.out 5; have hfz59_6 := blk_frozen BK105.out 6; have hfz59_7 := blk_frozen BK105.out 7; have hfz59_8 := blk_frozen BK105.out 8; have hfz59_9 := blk_frozen BK105.out 9; have hfz59_10 := blk_frozen BK105.out 10; have hfz59_11 := blk_frozen BK105.out 11; have hfz59_12 := blk_frozen BK105.out 12; have hfz59_13 := blk_frozen BK105.out 13) | ((with_reducible refine gate_dst (N := 38) rfl ?_); refine Kd.R_lit k45 _ 45 ?hg (N := 38) ?hd (xs := ([(⟨(rd_T47 l0_2 x7_1).l.isVar, (rd_T47 l0_2 x7_1).l.name, (⟨(rd_T47 l0_2 x7_1).l.val.isSym, (rd_T47 l0_2 x7_1).l.val.sym, (rd_T47 l0_2 x7_1).l.val.n⟩ : Val)⟩ : Term), (⟨(rd_T47 l0_2 x7_1).r.isVar, (rd_T47 l0_2 x7_1).r.name, (⟨(rd_T47 l0_2 x7_1).r.val.isSym, (rd_T47 l0_2 x7_1).r.val.sym, (rd_T47 l0_2 x7_1).r.val.n⟩ : Val)⟩ : Term)] : List (Term))) (inner := [.bool ((rd_T47 l0_2 x7_1).l.isVar), .string ((rd_T47 l0_2 x7_1).l.name), .bool ((rd_T47 l0_2 x7_1).l.val.isSym), .string ((rd_T47 l0_2 x7_1).l.val.sym), .int .i64 ((rd_T47 l0_2 x7_1).l.val.n), .bool ((rd_T47 l0_2 x7_1).r.isVar), .string ((rd_T47 l0_2 x7_1).r.name), .bool ((rd_T47 l0_2 x7_1).r.val.isSym), .string ((rd_T47 l0_2 x7_1).r.val.sym), .int .i64 ((rd_T47 l0_2 x7_1).r.val.n)]) (ok := fun _ => True) (okp := fun _ => True) ?hr ?hp (fun _ hk => hk) trivial (Below.refl _ _) (Nat.le_refl _) (by simp) ?_; (case hd => rfl); (case hg => rfl); (case hr => first | (go_simp; done) | (go_simp; rfl)); (case hp => exact (Reps.c5 (show Kd.M k45 _ _ _ (⟨(rd_T47 l0_2 x7_1).l.isVar, (rd_T47 l0_2 x7_1).l.name, (⟨(rd_T47 l0_2 x7_1).l.val.isSym, (rd_T47 l0_2 x7_1).l.val.sym, (rd_T47 l0_2 x7_1).l.val.n⟩ : Val)⟩ : Term) [.bool ((rd_T47 l0_2 x7_1).l.isVar), .string ((rd_T47 l0_2 x7_1).l.name), .bool ((rd_T47 l0_2 x7_1).l.val.isSym), .string ((rd_T47 l0_2 x7_1).l.val.sym), .int .i64 ((rd_T47 l0_2 x7_1).l.val.n)] from (k45_mkM _ _ _ (⟨(rd_T47 l0_2 x7_1).l.isVar, (rd_T47 l0_2 x7_1).l.name, (⟨(rd_T47 l0_2 x7_1).l.val.isSym, (rd_T47 l0_2 x7_1).l.val.sym, (rd_T47 l0_2 x7_1).l.val.n⟩ : Val)⟩ : Term) )) (Reps.c5 (show Kd.M k45 _ _ _ (⟨(rd_T47 l0_2 x7_1).r.isVar, (rd_T47 l0_2 x7_1).r.name, (⟨(rd_T47 l0_2 x7_1).r.val.isSym, (rd_T47 l0_2 x7_1).r.val.sym, (rd_T47 l0_2 x7_1).r.val.n⟩ : Val)⟩ : Term) [.bool ((rd_T47 l0_2 x7_1).r.isVar), .string ((rd_T47 l0_2 x7_1).r.name), .bool ((rd_T47 l0_2 x7_1).r.val.isSym), .string ((rd_T47 l0_2 x7_1).r.val.sym), .int .i64 ((rd_T47 l0_2 x7_1).r.val.n)] from (k45_mkM _ _ _ (⟨(rd_T47 l0_2 x7_1).r.isVar, (rd_T47 l0_2 x7_1).r.name, (⟨(rd_T47 l0_2 x7_1).r.val.isSym, (rd_T47 l0_2 x7_1).r.val.sym, (rd_T47 l0_2 x7_1).r.val.n⟩ : Val)⟩ : Term) )) (Reps.none _ _)))); intro v107 w60 ho61 hb hg_ hnew_; clear hg_ hnew_; (first | rw [← Ny106.out] at ho61 | (simp only [Int.reduceToNat] at ho61; rw [← Ny106.out] at ho61)); have HO108 := am (Kd.R_lower ho61 (below_size (by repeat (first | (with_reducible first | exact HB.out | apply lA | apply lN | apply lD | refine lS ?_ GE101.out | refine lS ?_ GE105.out) | exact HB.out)))); replace BK101 := am (blk_below (g := gb101) (o := .cells #[.string a0_0, .slice A0_1 l0_1.length c0_1, .slice (some ad104) l0_2.length c0_2] 27 (0, 0)) (by repeat (first | (with_reducible first | exact BK101.out | refine bN ?_ _ | refine bD ?_ | refine bA ?_ _) | refine blk_far ?_ NB101_105.out _ | exact BK101.out)) hb); replace BK105 := am (blk_below (g := gb105) (o := .cells #[.int .i64 ((rd_T47 l0_2 x7_1).kind), .string ((rd_T47 l0_2 x7_1).atom.pred), .slice A104_2 ((rd_T47 l0_2 x7_1).atom.args).length c104_2, .string ((rd_T47 l0_2 x7_1).op), .bool ((rd_T47 l0_2 x7_1).l.isVar), .string ((rd_T47 l0_2 x7_1).l.name), .bool ((rd_T47 l0_2 x7_1).l.val.isSym), .string ((rd_T47 l0_2 x7_1).l.val.sym), .int .i64 ((rd_T47 l0_2 x7_1).l.val.n), .bool ((rd_T47 l0_2 x7_1).r.isVar), .string ((rd_T47 l0_2 x7_1).r.name), .bool ((rd_T47 l0_2 x7_1).r.val.isSym), .string ((rd_T47 l0_2 x7_1).r.val.sym), .int .i64 ((rd_T47 l0_2 x7_1).r.val.n)] 47 (0, 0)) (by (with_reducible repeat (first | refine bN ?_ _ | refine bD ?_ | refine bA ?_ _)); refine blk_put (cs := #[.int .i64 ((rd_T47 l0_2 x7_1).kind), .string ((rd_T47 l0_2 x7_1).atom.pred), .slice A104_2 ((rd_T47 l0_2 x7_1).atom.args).length c104_2, .string ((rd_T47 l0_2 x7_1).op), .bool ((rd_T47 l0_2 x7_1).l.isVar), .string ((rd_T47 l0_2 x7_1).l.name), .bool ((rd_T47 l0_2 x7_1).l.val.isSym), .string ((rd_T47 l0_2 x7_1).l.val.sym), .int .i64 ((rd_T47 l0_2 x7_1).l.val.n), .bool ((rd_T47 l0_2 x7_1).r.isVar), .string ((rd_T47 l0_2 x7_1).r.name), .bool ((rd_T47 l0_2 x7_1).r.val.isSym), .string ((rd_T47 l0_2 x7_1).r.val.sym), .int .i64 0]) ?_ 13 _ rfl; (with_reducible repeat (first | refine bN ?_ _ | refine bD ?_ | refine bA ?_ _)); refine blk_put (cs := #[.int .i64 ((rd_T47 l0_2 x7_1).kind), .string ((rd_T47 l0_2 x7_1).atom.pred), .slice A104_2 ((rd_T47 l0_2 x7_1).atom.args).length c104_2, .string ((rd_T47 l0_2 x7_1).op), .bool ((rd_T47 l0_2 x7_1).l.isVar), .string ((rd_T47 l0_2 x7_1).l.name), .bool ((rd_T47 l0_2 x7_1).l.val.isSym), .string ((rd_T47 l0_2 x7_1).l.val.sym), .int .i64 ((rd_T47 l0_2 x7_1).l.val.n), .bool ((rd_T47 l0_2 x7_1).r.isVar), .string ((rd_T47 l0_2 x7_1).r.name), .bool ((rd_T47 l0_2 x7_1).r.val.isSym), .string (⟨#[]⟩ : ByteArray), .int .i64 0]) ?_ 12 _ rfl; (with_reducible repeat (first | refine bN ?_ _ | refine bD ?_ | refine bA ?_ _)); refine blk_put (cs := #[.int .i64 ((rd_T47 l0_2 x7_1).kind), .string ((rd_T47 l0_2 x7_1).atom.pred), .slice A104_2 ((rd_T47 l0_2 x7_1).atom.args).length c104_2, .string ((rd_T47 l0_2 x7_1).op), .bool ((rd_T47 l0_2 x7_1).l.isVar), .string ((rd_T47 l0_2 x7_1).l.name), .bool ((rd_T47 l0_2 x7_1).l.val.isSym), .string ((rd_T47 l0_2 x7_1).l.val.sym), .int .i64 ((rd_T47 l0_2 x7_1).l.val.n), .bool ((rd_T47 l0_2 x7_1).r.isVar), .string ((rd_T47 l0_2 x7_1).r.name), .bool false, .string (⟨#[]⟩ : ByteArray), .int .i64 0]) ?_ 11 _ rfl; (with_reducible repeat (first | refine bN ?_ _ | refine bD ?_ | refine bA ?_ _)); refine blk_put (cs := #[.int .i64 ((rd_T47 l0_2 x7_1).kind), .string ((rd_T47 l0_2 x7_1).atom.pred), .slice A104_2 ((rd_T47 l0_2 x7_1).atom.args).length c104_2, .string ((rd_T47 l0_2 x7_1).op), .bool ((rd_T47 l0_2 x7_1).l.isVar), .string ((rd_T47 l0_2 x7_1).l.name), .bool ((rd_T47 l0_2 x7_1).l.val.isSym), .string ((rd_T47 l0_2 x7_1).l.val.sym), .int .i64 ((rd_T47 l0_2 x7_1).l.val.n), .bool ((rd_T47 l0_2 x7_1).r.isVar), .string (⟨#[]⟩ : ByteArray), .bool false, .string (⟨#[]⟩ : ByteArray), .int .i64 0]) ?_ 10 _ rfl; (with_reducible repeat (first | refine bN ?_ _ | refine bD ?_ | refine bA ?_ _)); refine blk_put (cs := #[.int .i64 ((rd_T47 l0_2 x7_1).kind), .string ((rd_T47 l0_2 x7_1).atom.pred), .slice A104_2 ((rd_T47 l0_2 x7_1).atom.args).length c104_2, .string ((rd_T47 l0_2 x7_1).op), .bool ((rd_T47 l0_2 x7_1).l.isVar), .string ((rd_T47 l0_2 x7_1).l.name), .bool ((rd_T47 l0_2 x7_1).l.val.isSym), .string ((rd_T47 l0_2 x7_1).l.val.sym), .int .i64 ((rd_T47 l0_2 x7_1).l.val.n), .bool false, .string (⟨#[]⟩ : ByteArray), .bool false, .string (⟨#[]⟩ : ByteArray), .int .i64 0]) ?_ 9 _ rfl; (with_reducible repeat (first | refine bN ?_ _ | refine bD ?_ | refine bA ?_ _)); refine blk_put (cs := #[.int .i64 ((rd_T47 l0_2 x7_1).kind), .string ((rd_T47 l0_2 x7_1).atom.pred), .slice A104_2 ((rd_T47 l0_2 x7_1).atom.args).length c104_2, .string ((rd_T47 l0_2 x7_1).op), .bool ((rd_T47 l0_2 x7_1).l.isVar), .string ((rd_T47 l0_2 x7_1).l.name), .bool ((rd_T47 l0_2 x7_1).l.val.isSym), .string ((rd_T47 l0_2 x7_1).l.val.sym), .int .i64 0, .bool false, .string (⟨#[]⟩ : ByteArray), .bool false, .string (⟨#[]⟩ : ByteArray), .int .i64 0]) ?_ 8 _ rfl; (with_reducible repeat (first | refine bN ?_ _ | refine bD ?_ | refine bA ?_ _)); refine blk_put (cs := #[.int .i64 ((rd_T47 l0_2 x7_1).kind), .string ((rd_T47 l0_2 x7_1).atom.pred), .slice A104_2 ((rd_T47 l0_2 x7_1).atom.args).length c104_2, .string ((rd_T47 l0_2 x7_1).op), .bool ((rd_T47 l0_2 x7_1).l.isVar), .string ((rd_T47 l0_2 x7_1).l.name), .bool ((rd_T47 l0_2 x7_1).l.val.isSym), .string (⟨#[]⟩ : ByteArray), .int .i64 0, .bool false, .string (⟨#[]⟩ : ByteArray), .bool false, .string (⟨#[]⟩ : ByteArray), .int .i64 0]) ?_ 7 _ rfl; (with_reducible repeat (first | refine bN ?_ _ | refine bD ?_ | refine bA ?_ _)); refine blk_put (cs := #[.int .i64 ((rd_T47 l0_2 x7_1).kind), .string ((rd_T47 l0_2 x7_1).atom.pred), .slice A104_2 ((rd_T47 l0_2 x7_1).atom.args).length c104_2, .string ((rd_T47 l0_2 x7_1).op), .bool ((rd_T47 l0_2 x7_1).l.isVar), .string ((rd_T47 l0_2 x7_1).l.name), .bool false, .string (⟨#[]⟩ : ByteArray), .int .i64 0, .bool false, .string (⟨#[]⟩ : ByteArray), .bool false, .string (⟨#[]⟩ : ByteArray), .int .i64 0]) ?_ 6 _ rfl; (with_reducible repeat (first | refine bN ?_ _ | refine bD ?_ | refine bA ?_ _)); refine blk_put (cs := #[.int .i64 ((rd_T47 l0_2 x7_1).kind), .string ((rd_T47 l0_2 x7_1).atom.pred), .slice A104_2 ((rd_T47 l0_2 x7_1).atom.args).length c104_2, .string ((rd_T47 l0_2 x7_1).op), .bool ((rd_T47 l0_2 x7_1).l.isVar), .string (⟨#[]⟩ : ByteArray), .bool false, .string (⟨#[]⟩ : ByteArray), .int .i64 0, .bool false, .string (⟨#[]⟩ : ByteArray), .bool false, .string (⟨#[]⟩ : ByteArray), .int .i64 0]) ?_ 5 _ rfl; (with_reducible repeat (first | refine bN ?_ _ | refine bD ?_ | refine bA ?_ _)); refine blk_put (cs := #[.int .i64 ((rd_T47 l0_2 x7_1).kind), .string ((rd_T47 l0_2 x7_1).atom.pred), .slice A104_2 ((rd_T47 l0_2 x7_1).atom.args).length c104_2, .string ((rd_T47 l0_2 x7_1).op), .bool false, .string (⟨#[]⟩ : ByteArray), .bool false, .string (⟨#[]⟩ : ByteArray), .int .i64 0, .bool false, .string (⟨#[]⟩ : ByteArray), .bool false, .string (⟨#[]⟩ : ByteArray), .int .i64 0]) ?_ 4 _ rfl; (with_reducible repeat (first | refine bN ?_ _ | refine bD ?_ | refine bA ?_ _)); refine blk_put (cs := #[.int .i64 ((rd_T47 l0_2 x7_1).kind), .string ((rd_T47 l0_2 x7_1).atom.pred), .slice A104_2 ((rd_T47 l0_2 x7_1).atom.args).length c104_2, .string (⟨#[]⟩ : ByteArray), .bool false, .string (⟨#[]⟩ : ByteArray), .bool false, .string (⟨#[]⟩ : ByteArray), .int .i64 0, .bool false, .string (⟨#[]⟩ : ByteArray), .bool false, .string (⟨#[]⟩ : ByteArray), .int .i64 0]) ?_ 3 _ rfl; (with_reducible repeat (first | refine bN ?_ _ | refine bD ?_ | refine bA ?_ _)); refine blk_put (cs := #[.int .i64 ((rd_T47 l0_2 x7_1).kind), .string ((rd_T47 l0_2 x7_1).atom.pred), .slice none 0 0, .string (⟨#[]⟩ : ByteArray), .bool false, .string (⟨#[]⟩ : ByteArray), .bool false, .string (⟨#[]⟩ : ByteArray), .int .i64 0, .bool false, .string (⟨#[]⟩ : ByteArray), .bool false, .string (⟨#[]⟩ : ByteArray), .int .i64 0]) ?_ 2 _ rfl; (with_reducible repeat (first | refine bN ?_ _ | refine bD ?_ | refine bA ?_ _)); refine blk_put (cs := #[.int .i64 ((rd_T47 l0_2 x7_1).kind), .string (⟨#[]⟩ : ByteArray), .slice none 0 0, .string (⟨#[]⟩ : ByteArray), .bool false, .string (⟨#[]⟩ : ByteArray), .bool false, .string (⟨#[]⟩ : ByteArray), .int .i64 0, .bool false, .string (⟨#[]⟩ : ByteArray), .bool false, .string (⟨#[]⟩ : ByteArray), .int .i64 0]) ?_ 1 _ rfl; (with_reducible repeat (first | refine bN ?_ _ | refine bD ?_ | refine bA ?_ _)); refine blk_put (cs := #[.int .i64 0, .string (⟨#[]⟩ : ByteArray), .slice none 0 0, .string (⟨#[]⟩ : ByteArray), .bool false, .string (⟨#[]⟩ : ByteArray), .bool false, .string (⟨#[]⟩ : ByteArray), .int .i64 0, .bool false, .string (⟨#[]⟩ : ByteArray), .bool false, .string (⟨#[]⟩ : ByteArray), .int .i64 0]) ?_ 0 _ rfl; (with_reducible repeat (first | refine bN ?_ _ | refine bD ?_ | refine bA ?_ _)); exact BK105.out) hb); replace HB := am (below_step (by repeat (first | (with_reducible first | exact HB.out | apply lA | apply lN | apply lD | refine lS ?_ GE101.out | refine lS ?_ GE105.out) | exact HB.out)) hb); clear hb ho61; have hcz62_0 : w60.cell? ⟨gb105, 0, none⟩ = some (.int .i64 ((rd_T47 l0_2 x7_1).kind)) := (blk_cell BK105.out 0).trans rfl; have hcz62_1 : w60.cell? ⟨gb105, 1, none⟩ = some (.string ((rd_T47 l0_2 x7_1).atom.pred)) := (blk_cell BK105.out 1).trans rfl; have hcz62_2 : w60.cell? ⟨gb105, 2, none⟩ = some (.slice A104_2 ((rd_T47 l0_2 x7_1).atom.args).length c104_2) := (blk_cell BK105.out 2).trans rfl; have hcz62_3 : w60.cell? ⟨gb105, 3, none⟩ = some (.string ((rd_T47 l0_2 x7_1).op)) := (blk_cell BK105.out 3).trans rfl; have hcz62_4 : w60.cell? ⟨gb105, 4, none⟩ = some (.bool ((rd_T47 l0_2 x7_1).l.isVar)) := (blk_cell BK105.out 4).trans rfl; have hcz62_5 : w60.cell? ⟨gb105, 5, none⟩ = some (.string ((rd_T47 l0_2 x7_1).l.name)) := (blk_cell BK105.out 5).trans rfl; have hcz62_6 : w60.cell? ⟨gb105, 6, none⟩ = some (.bool ((rd_T47 l0_2 x7_1).l.val.isSym)) := (blk_cell BK105.out 6).trans rfl; have hcz62_7 : w60.cell? ⟨gb105, 7, none⟩ = some (.string ((rd_T47 l0_2 x7_1).l.val.sym)) := (blk_cell BK105.out 7).trans rfl; have hcz62_8 : w60.cell? ⟨gb105, 8, none⟩ = some (.int .i64 ((rd_T47 l0_2 x7_1).l.val.n)) := (blk_cell BK105.out 8).trans rfl; have hcz62_9 : w60.cell? ⟨gb105, 9, none⟩ = some (.bool ((rd_T47 l0_2 x7_1).r.isVar)) := (blk_cell BK105.out 9).trans rfl; have hcz62_10 : w60.cell? ⟨gb105, 10, none⟩ = some (.string ((rd_T47 l0_2 x7_1).r.name)) := (blk_cell BK105.out 10).trans rfl; have hcz62_11 : w60.cell? ⟨gb105, 11, none⟩ = some (.bool ((rd_T47 l0_2 x7_1).r.val.isSym)) := (blk_cell BK105.out 11).trans rfl; have hcz62_12 : w60.cell? ⟨gb105, 12, none⟩ = some (.string ((rd_T47 l0_2 x7_1).r.val.sym)) := (blk_cell BK105.out 12).trans rfl; have hcz62_13 : w60.cell? ⟨gb105, 13, none⟩ = some (.int .i64 ((rd_T47 l0_2 x7_1).r.val.n)) := (blk_cell BK105.out 13).trans rfl; have hfz62_0 := blk_frozen BK105.out 0; have hfz62_1 := blk_frozen BK105.out 1; have hfz62_2 := blk_frozen BK105.out 2; have hfz62_3 := blk_frozen BK105.out 3; have hfz62_4 := blk_frozen BK105.out 4; have hfz62_5 := blk_frozen BK105.out 5; have hfz62_6 := blk_frozen BK105.out 6; have hfz62_7 := blk_frozen BK105.out 7; have hfz62_8 := blk_frozen BK105.out 8; have hfz62_9 := blk_frozen BK105.out 9; have hfz62_10 := blk_frozen BK105.out 10; have hfz62_11 := blk_frozen BK105.out 11; have hfz62_12 := blk_frozen BK105.out 12; have hfz62_13 := blk_frozen BK105.out 13))
        go_roundg k1
        case measure => have := HK1.out; omega
        case rel => exact ⟨(wrap64 (x7_1 + 1)), (by first | rfl | (simp; done) | (simp [*]; done)), H', ⟨by have := HK1.out; omega⟩, ⟨by (with_reducible repeat (first | refine bN ?_ _ | refine bD ?_ | refine bA ?_ _)); exact BK101.out⟩, ⟨by repeat (first | (with_reducible first | exact HB.out | apply lA | apply lN | apply lD | refine lS ?_ GE101.out | refine lS ?_ GE105.out) | exact HB.out)⟩⟩
     ·rw [if_neg c11] at H
      exact absurd H (by simp)
    ·rw [if_neg c10] at H
     have c10b0 : decide (x7_1 < (l0_2.length : Int)) = false := decide_eq_false c10
     clear c10
     simp only [Option.some.injEq, Prod.mk.injEq] at H
     obtain ⟨rfl, rfl, rfl⟩ := H
     have hcz63_0 : wr.cell? ⟨gb101, 0, none⟩ = some (.string a0_0) := (blk_cell BK101.out 0).trans rfl
     have hcz63_1 : wr.cell? ⟨gb101, 1, none⟩ = some (.slice A0_1 l0_1.length c0_1) := (blk_cell BK101.out 1).trans rfl
     have hcz63_2 : wr.cell? ⟨gb101, 2, none⟩ = some (.slice A0_2 l0_2.length c0_2) := (blk_cell BK101.out 2).trans rfl
     have hfz63_0 := blk_frozen BK101.out 0
     have hfz63_1 := blk_frozen BK101.out 1
     have hfz63_2 := blk_frozen BK101.out 2
     go_wp2
     go_ret3
     exact ⟨by first | rfl | (simp [errW_none, errW_some] <;> rfl) | (simp [*, errW_none, errW_some] <;> rfl), by repeat (first | (with_reducible first | exact HB.out | apply lA | apply lN | apply lD | refine lS ?_ GE101.out) | exact HB.out)⟩
end Go.Proofs.Ythpejcnldecmoaa.H
namespace Go.Proofs.Ythpejcnldecmoaa.H
open Go.RowKit Go.Proofs.YthpejcnldecmoaaW.PrintWords Go.Proofs.YthpejcnldecmoaaW.PrintLast Go.Proofs.YthpejcnldecmoaaW.PrintMore
attribute [local go_sem] max2_int min2_int max_two min_two max_three min_three max_four min_four
set_option linter.unusedVariables false
set_option linter.unusedSimpArgs false
def lambrequinref09_All.l0 : Nat → Int → List (Decl) → List (Rule) → Option (Int × ByteArray × Int × Int)
 | 0, _, _, _ => none
 | k + 1, x6, x102000, x102001 => if x6 < (x102001.length : Int) then (if 0 ≤ x6 then ((lambrequinref09_Check.f k ((rd_T27 x102001 x6).head.pred) ((rd_T27 x102001 x6).head.args) ((rd_T27 x102001 x6).body)).bind fun bt103 => (if bt103.2.2 = 0 then (lambrequinref09_All.l0 k (wrap64 (x6 + 1)) x102000 x102001) else (some (x6, bt103.1, bt103.2.1, bt103.2.2)))) else (none)) else (some (0, (⟨#[]⟩ : ByteArray), 0, 0))
def lambrequinref09_All.f (k : Nat) (l0_0 : List (Decl)) (l0_1 : List (Rule)) : Option (Int × ByteArray × Int × Int) := lambrequinref09_All.l0 k 0 l0_0 l0_1
theorem lambrequinref09_All.mono_l : ∀ k, (∀ y0 y1 y2, LeO (lambrequinref09_All.l0 k y0 y1 y2) (lambrequinref09_All.l0 (k + 1) y0 y1 y2))
 | 0 => fun _ _ _ r h => by simp [lambrequinref09_All.l0] at h
 | k + 1 => by
  have ih0 := lambrequinref09_All.mono_l k
  ·intro y0 y1 y2
   unfold lambrequinref09_All.l0
   repeat' first
   | (with_reducible exact ih0 _ _ _)
   | (with_reducible exact lambrequinref09_Check.mono _ _ _ _)
   | (with_reducible exact LeO.refl _)
   | (with_reducible exact LeO.none _)
   | (with_reducible refine LeO.ite ?_ ?_)
   | (with_reducible refine LeO.bind ?_ (fun _ => ?_))
   | exact ih0 _ _ _
   | exact lambrequinref09_Check.mono _ _ _ _
   | exact LeO.none _
   | refine LeO.ite ?_ ?_
   | refine LeO.bind ?_ (fun _ => ?_)
theorem lambrequinref09_All.mono : ∀ a0 a1 k, LeO (lambrequinref09_All.f k a0 a1) (lambrequinref09_All.f (k + 1) a0 a1) := by
 intro a0 a1 k
 have ih0 := lambrequinref09_All.mono_l k
 unfold lambrequinref09_All.f
 repeat' first
   | (with_reducible exact ih0 _ _ _)
   | (with_reducible exact lambrequinref09_Check.mono _ _ _ _)
   | (with_reducible exact LeO.refl _)
   | (with_reducible exact LeO.none _)
   | (with_reducible refine LeO.ite ?_ ?_)
   | (with_reducible refine LeO.bind ?_ (fun _ => ?_))
   | exact ih0 _ _ _
   | exact lambrequinref09_Check.mono _ _ _ _
   | exact LeO.none _
   | refine LeO.ite ?_ ?_
   | refine LeO.bind ?_ (fun _ => ?_)
set_option maxHeartbeats 8000000 in
set_option maxRecDepth 100000 in
theorem lambrequinref09_All.calls (k : Nat) (A0_0 : Option Addr) (c0_0 : Nat) (l0_0 : List (Decl)) (A0_1 : Option Addr) (c0_1 : Nat) (l0_1 : List (Rule)) (r1 : Int) (r2 : ByteArray) (r3 : Int) (r4 : Int) (w : World) (hr0_0 : Kd.C k137 w A0_0 l0_0.length l0_0) (hc0_0 : l0_0.length ≤ c0_0) (hr0_1 : Kd.C k27 w A0_1 l0_1.length l0_1) (hc0_1 : l0_1.length ≤ c0_1) (h : lambrequinref09_All.f k l0_0 l0_1 = some (r1, r2, r3, r4)) :
  Calls Try.prog 36 #[.agg #[.slice A0_0 l0_0.length c0_0, .slice A0_1 l0_1.length c0_1]] w fun e w' => e = .returned (.tuple #[.int .i64 r1, .string r2, .int .i64 r3, .int .i64 r4]) ∧ Below w.heap.size w w' := by
 have hu66 := Try.underlying66
 have hu27 := Try.underlying27
 have HR0_0 := Aside0.mk hr0_0
 have HC0_0 := Aside0.mk hc0_0
 clear hr0_0 hc0_0
 have HR0_1 := Aside0.mk hr0_1
 have HC0_1 := Aside0.mk hc0_1
 clear hr0_1 hc0_1
 have HB := Aside0.mk (Below.refl w.heap.size w)
 have H : (lambrequinref09_All.l0 k 0 l0_0 l0_1) = some (r1, r2, r3, r4) := h
 clear h
 have H' := Aside0.mk H
 clear H
 go_enter Try.func36, Try.ntmps36
 go_wp2_with (first | ((with_reducible refine gate_dst (N := 1) rfl ?_); refine box_event ?hg (N := 1) ?hd (cs := #[.slice A0_0 l0_0.length c0_0, .slice A0_1 l0_1.length c0_1]) (t := 66) ?hr ?_; (case hd => rfl); (case hg => rfl); (case hr => first | (go_simp; done) | (go_simp; rfl)); intro gb101 hg w2 hbox hb; have n0_ := Aside0.mk (below_step (by repeat (first | (with_reducible first | exact HB.out | apply below_alloc | apply pw_below_drewN | apply below_drew1) | exact HB.out)) hb); have n1_ := Aside0.mk (hbox); have n2_ := Aside0.mk ((by rw [hg]; exact (below_size (by repeat (first | (with_reducible first | exact HB.out | apply below_alloc | apply pw_below_drewN | apply below_drew1) | exact HB.out))) : w.heap.size ≤ gb101)); have n3_ := Aside0.mk ((by rw [hg]; exact (below_size (by repeat (first | (with_reducible first | exact HB.out | apply below_alloc | apply pw_below_drewN | apply below_drew1) | exact HB.out))) : w.heap.size ≤ gb101)); clear HB; have HB := n0_; have BK101 := n1_; have GW101 := n2_; have GE101 := n3_; clear n0_ n1_ n2_ n3_; clear hb hbox hg))
 go_loopg [6] k (fun kq v6 w' => ∃ (x6_1 : Int), v6 = .int .i64 x6_1 ∧ Aside0 (lambrequinref09_All.l0 kq x6_1 l0_0 l0_1 = some (r1, r2, r3, r4)) ∧ Aside0 (kq ≤ k) ∧ Aside0 (w'.heap[gb101]? = some (.cells #[(.slice A0_0 l0_0.length c0_0), (.slice A0_1 l0_1.length c0_1)] 66 (0, 0))) ∧ Aside0 (Below w.heap.size w w'))
 case atStart => exact ⟨(0), (by first | rfl | (simp; done) | (simp [*]; done)), H', ⟨Nat.le_refl _⟩, ⟨by (with_reducible repeat (first | refine blk_drewN ?_ _ | refine blk_drew ?_ | refine blk_alloc ?_ _)); exact BK101.out⟩, ⟨by repeat (first | (with_reducible first | exact HB.out | apply below_alloc | apply pw_below_drewN | apply below_drew1 | refine below_set ?_ GE101.out) | exact HB.out)⟩⟩
 case round =>
  clear H'
  try clear p2
  obtain ⟨x6_1, rfl, HA, HK1, BK101, HB⟩ := hrel
  cases gk with
  | zero => exact absurd HA.out (by simp [lambrequinref09_All.l0])
  | succ k1 =>
   have H := HA.out
   clear HA
   simp only [lambrequinref09_All.l0] at H
   by_cases c3 : x6_1 < (l0_1.length : Int)
   ·rw [if_pos c3] at H
    have c3b0 : decide (x6_1 < (l0_1.length : Int)) = true := decide_eq_true c3
    clear c3
    by_cases c4 : 0 ≤ x6_1
    ·rw [if_pos c4] at H
     have c4b0 : decide (0 ≤ x6_1) = true := decide_eq_true c4
     clear c4
     replace H := Option.bind_eq_some_iff.mp H
     obtain ⟨⟨t103, t104, t105⟩, A50, H⟩ := H
     replace H : (if t105 = 0 then (lambrequinref09_All.l0 k1 (wrap64 (x6_1 + 1)) l0_0 l0_1) else (some (x6_1, t103, t104, t105))) = some (r1, r2, r3, r4) := H
     have A5 := Aside0.mk A50
     clear A50
     by_cases c6 : t105 = 0
     ·rw [if_pos c6] at H
      have c6b0 : (t105 == 0) = true := beq_iff_eq.mpr c6
      have c6b1 : (t105 != 0) = false := bne_eq_false_iff_eq.mpr c6
      clear c6
      have H' := Aside0.mk H
      clear H
      have hcz7_0 : wr.cell? ⟨gb101, 0, none⟩ = some (.slice A0_0 l0_0.length c0_0) := (blk_cell BK101.out 0).trans rfl
      have hcz7_1 : wr.cell? ⟨gb101, 1, none⟩ = some (.slice A0_1 l0_1.length c0_1) := (blk_cell BK101.out 1).trans rfl
      have hfz7_0 := blk_frozen BK101.out 0
      have hfz7_1 := blk_frozen BK101.out 1
      have p102 : 0 ≤ (x6_1 : Int) := of_decide_eq_true (by first | (with_reducible assumption) | assumption)
      have q102 : x6_1 < (l0_1.length : Int) := of_decide_eq_true (by first | (with_reducible assumption) | assumption)
      obtain ⟨ad102, A102_1, c102_1, A102_2, c102_2, e102, hx102_0, hx102_1, hx102_2, hl102_1, hi102_1, hl102_2, hi102_2⟩ := at_T27 HR0_1.out x6_1 p102 q102
      cases e102
      replace hx102_0 := (HB.out.cell (blt_ hx102_0)).trans hx102_0
      replace hx102_1 := (HB.out.cell (blt_ hx102_1)).trans hx102_1
      replace hx102_2 := (HB.out.cell (blt_ hx102_2)).trans hx102_2
      have HR102_1 := Aside0.mk hi102_1
      have HC102_1 := Aside0.mk hl102_1
      clear hi102_1 hl102_1
      have HR102_2 := Aside0.mk hi102_2
      have HC102_2 := Aside0.mk hl102_2
      clear hi102_2 hl102_2
      replace p102 := eq_true p102
      replace q102 := eq_true q102
      go_wp2_with (first | ((with_reducible refine gate_callee (f := 34) rfl ?_); refine goesL_ (some 23) rfl rfl Try.func34 (by kernel_rfl) rfl #[.agg #[.string ((rd_T27 l0_1 x6_1).head.pred), .slice A102_1 ((rd_T27 l0_1 x6_1).head.args).length c102_1, .slice A102_2 ((rd_T27 l0_1 x6_1).body).length c102_2]] rfl (by (try simp only [List.map_toArray, List.map_cons, List.map_nil]); first | done | rfl | (simp only [List.length_drop, List.length_take]; rfl)) ?_; (with_reducible refine (lambrequinref09_Check.calls k1 ((rd_T27 l0_1 x6_1).head.pred) _ _ ((rd_T27 l0_1 x6_1).head.args) _ _ ((rd_T27 l0_1 x6_1).body) t103 t104 t105 _ ?side1 ?side2 ?side3 ?side4 A5.out).mono ?_); (case side1 => repeat (first | exact (Kd.C_below HR102_1.out HB.out) | (with_reducible refine Kd.C_alloc ?_ _) | (with_reducible refine Kd.C_drewN ?_ _) | (with_reducible refine Kd.C_drew ?_))); (case side2 => exact HC102_1.out); (case side3 => repeat (first | exact (Kd.C_below HR102_2.out HB.out) | (with_reducible refine Kd.C_alloc ?_ _) | (with_reducible refine Kd.C_drewN ?_ _) | (with_reducible refine Kd.C_drew ?_))); (case side4 => exact HC102_2.out); rintro e w8 ⟨rfl, hb⟩; refine ⟨_, rfl, ?_⟩; have n0_ := Aside0.mk (blk_below (g := gb101) (o := .cells #[.slice A0_0 l0_0.length c0_0, .slice (some ad102) l0_1.length c0_1] 66 (0, 0)) (by (with_reducible repeat (first | refine blk_drewN ?_ _ | refine blk_drew ?_ | refine blk_alloc ?_ _)); exact BK101.out) hb); have n1_ := Aside0.mk (below_step (by repeat (first | (with_reducible first | exact HB.out | apply below_alloc | apply pw_below_drewN | apply below_drew1 | refine below_set ?_ GE101.out) | exact HB.out)) hb); clear BK101; clear HB; have BK101 := n0_; have HB := n1_; clear n0_ n1_; (try clear hb); (try clear hb2); (try clear hk); (try clear hi)))
      go_roundg k1
      case measure => have := HK1.out; omega
      case rel => exact ⟨(wrap64 (x6_1 + 1)), (by first | rfl | (simp; done) | (simp [*]; done)), H', ⟨by have := HK1.out; omega⟩, ⟨by (with_reducible repeat (first | refine blk_drewN ?_ _ | refine blk_drew ?_ | refine blk_alloc ?_ _)); exact BK101.out⟩, ⟨by repeat (first | (with_reducible first | exact HB.out | apply below_alloc | apply pw_below_drewN | apply below_drew1 | refine below_set ?_ GE101.out) | exact HB.out)⟩⟩
     ·rw [if_neg c6] at H
      have c6b0 : (t105 == 0) = false := beq_eq_false_iff_ne.mpr c6
      have c6b1 : (t105 != 0) = true := bne_iff_ne.mpr c6
      simp only [Option.some.injEq, Prod.mk.injEq] at H
      obtain ⟨rfl, rfl, rfl, rfl⟩ := H
      have hcz9_0 : wr.cell? ⟨gb101, 0, none⟩ = some (.slice A0_0 l0_0.length c0_0) := (blk_cell BK101.out 0).trans rfl
      have hcz9_1 : wr.cell? ⟨gb101, 1, none⟩ = some (.slice A0_1 l0_1.length c0_1) := (blk_cell BK101.out 1).trans rfl
      have hfz9_0 := blk_frozen BK101.out 0
      have hfz9_1 := blk_frozen BK101.out 1
      have p102 : 0 ≤ (x6_1 : Int) := of_decide_eq_true (by first | (with_reducible assumption) | assumption)
      have q102 : x6_1 < (l0_1.length : Int) := of_decide_eq_true (by first | (with_reducible assumption) | assumption)
      obtain ⟨ad102, A102_1, c102_1, A102_2, c102_2, e102, hx102_0, hx102_1, hx102_2, hl102_1, hi102_1, hl102_2, hi102_2⟩ := at_T27 HR0_1.out x6_1 p102 q102
      cases e102
      replace hx102_0 := (HB.out.cell (blt_ hx102_0)).trans hx102_0
      replace hx102_1 := (HB.out.cell (blt_ hx102_1)).trans hx102_1
      replace hx102_2 := (HB.out.cell (blt_ hx102_2)).trans hx102_2
      have HR102_1 := Aside0.mk hi102_1
      have HC102_1 := Aside0.mk hl102_1
      clear hi102_1 hl102_1
      have HR102_2 := Aside0.mk hi102_2
      have HC102_2 := Aside0.mk hl102_2
      clear hi102_2 hl102_2
      replace p102 := eq_true p102
      replace q102 := eq_true q102
      go_wp2_with (first | ((with_reducible refine gate_callee (f := 34) rfl ?_); refine goesL_ (some 23) rfl rfl Try.func34 (by kernel_rfl) rfl #[.agg #[.string ((rd_T27 l0_1 x6_1).head.pred), .slice A102_1 ((rd_T27 l0_1 x6_1).head.args).length c102_1, .slice A102_2 ((rd_T27 l0_1 x6_1).body).length c102_2]] rfl (by (try simp only [List.map_toArray, List.map_cons, List.map_nil]); first | done | rfl | (simp only [List.length_drop, List.length_take]; rfl)) ?_; (with_reducible refine (lambrequinref09_Check.calls k1 ((rd_T27 l0_1 x6_1).head.pred) _ _ ((rd_T27 l0_1 x6_1).head.args) _ _ ((rd_T27 l0_1 x6_1).body) t103 t104 t105 _ ?side1 ?side2 ?side3 ?side4 A5.out).mono ?_); (case side1 => repeat (first | exact (Kd.C_below HR102_1.out HB.out) | (with_reducible refine Kd.C_alloc ?_ _) | (with_reducible refine Kd.C_drewN ?_ _) | (with_reducible refine Kd.C_drew ?_))); (case side2 => exact HC102_1.out); (case side3 => repeat (first | exact (Kd.C_below HR102_2.out HB.out) | (with_reducible refine Kd.C_alloc ?_ _) | (with_reducible refine Kd.C_drewN ?_ _) | (with_reducible refine Kd.C_drew ?_))); (case side4 => exact HC102_2.out); rintro e w10 ⟨rfl, hb⟩; refine ⟨_, rfl, ?_⟩; have n0_ := Aside0.mk (blk_below (g := gb101) (o := .cells #[.slice A0_0 l0_0.length c0_0, .slice (some ad102) l0_1.length c0_1] 66 (0, 0)) (by (with_reducible repeat (first | refine blk_drewN ?_ _ | refine blk_drew ?_ | refine blk_alloc ?_ _)); exact BK101.out) hb); have n1_ := Aside0.mk (below_step (by repeat (first | (with_reducible first | exact HB.out | apply below_alloc | apply pw_below_drewN | apply below_drew1 | refine below_set ?_ GE101.out) | exact HB.out)) hb); clear BK101; clear HB; have BK101 := n0_; have HB := n1_; clear n0_ n1_; (try clear hb); (try clear hb2); (try clear hk); (try clear hi)))
      refine bodyPost_ret (results_list (rs := [.tmp 2, .tmp 3, .tmp 4, .tmp 5]) rfl (by simp) (.tmp (.tmp (.tmp (.tmp .nil))))) rfl ?_
      exact ⟨by first | rfl | (simp [errW_none, errW_some] <;> rfl) | (simp [*, errW_none, errW_some] <;> rfl), by repeat (first | (with_reducible first | exact HB.out | apply below_alloc | apply pw_below_drewN | apply below_drew1 | refine below_set ?_ GE101.out) | exact HB.out)⟩
    ·rw [if_neg c4] at H
     exact absurd H (by simp)
   ·rw [if_neg c3] at H
    have c3b0 : decide (x6_1 < (l0_1.length : Int)) = false := decide_eq_false c3
    clear c3
    simp only [Option.some.injEq, Prod.mk.injEq] at H
    obtain ⟨rfl, rfl, rfl, rfl⟩ := H
    have hcz11_0 : wr.cell? ⟨gb101, 0, none⟩ = some (.slice A0_0 l0_0.length c0_0) := (blk_cell BK101.out 0).trans rfl
    have hcz11_1 : wr.cell? ⟨gb101, 1, none⟩ = some (.slice A0_1 l0_1.length c0_1) := (blk_cell BK101.out 1).trans rfl
    have hfz11_0 := blk_frozen BK101.out 0
    have hfz11_1 := blk_frozen BK101.out 1
    go_wp2
    refine bodyPost_ret (results_list (rs := [.tmp 2, .tmp 3, .tmp 4, .tmp 5]) rfl (by simp) (.tmp (.tmp (.tmp (.tmp .nil))))) rfl ?_
    exact ⟨by first | rfl | (simp [errW_none, errW_some] <;> rfl) | (simp [*, errW_none, errW_some] <;> rfl), by repeat (first | (with_reducible first | exact HB.out | apply below_alloc | apply pw_below_drewN | apply below_drew1 | refine below_set ?_ GE101.out) | exact HB.out)⟩
end Go.Proofs.Ythpejcnldecmoaa.H
namespace Go.Proofs.Ythpejcnldecmoaa.H
open Go.RowKit Go.Proofs.YthpejcnldecmoaaW.PrintWords Go.Proofs.YthpejcnldecmoaaW.PrintLast Go.Proofs.YthpejcnldecmoaaW.PrintMore
attribute [local go_sem] max2_int min2_int max_two min_two max_three min_three max_four min_four
set_option linter.unusedVariables false
set_option linter.unusedSimpArgs false
def lambrequinref09_Bound.l0 : Nat → List ByteArray → Int → ByteArray → List (Term) → List (Liter) → Option (List ByteArray)
 | 0, _, _, _, _, _ => none
 | k + 1, x3, x4, x102000, x102001, x102002 => if x4 < (x102002.length : Int) then (if 0 ≤ x4 then (if ((rd_T47 x102002 x4).kind) = 1 then ((lambrequinref09_Vars.f k ((rd_T47 x102002 x4).atom.pred) ((rd_T47 x102002 x4).atom.args)).bind fun t104 => (if x3.length + t104.length < 8796093022208 then (lambrequinref09_Bound.l0 k (x3 ++ t104) (wrap64 (x4 + 1)) x102000 x102001 x102002) else (none))) else (lambrequinref09_Bound.l0 k x3 (wrap64 (x4 + 1)) x102000 x102001 x102002)) else (none)) else ((lambrequinref09_Sorted.f k x3).bind fun t110 => (some t110))
def lambrequinref09_Bound.f (k : Nat) (a0_0 : ByteArray) (l0_1 : List (Term)) (l0_2 : List (Liter)) : Option (List ByteArray) := lambrequinref09_Bound.l0 k ([] : List ByteArray) 0 a0_0 l0_1 l0_2
theorem lambrequinref09_Bound.mono_l : ∀ k, (∀ y0 y1 y2 y3 y4, LeO (lambrequinref09_Bound.l0 k y0 y1 y2 y3 y4) (lambrequinref09_Bound.l0 (k + 1) y0 y1 y2 y3 y4))
 | 0 => fun _ _ _ _ _ r h => by simp [lambrequinref09_Bound.l0] at h
 | k + 1 => by
  have ih0 := lambrequinref09_Bound.mono_l k
  ·intro y0 y1 y2 y3 y4
   unfold lambrequinref09_Bound.l0
   repeat' first
   | (with_reducible exact ih0 _ _ _ _ _)
   | (with_reducible exact lambrequinref09_Sorted.mono _ _)
   | (with_reducible exact lambrequinref09_Vars.mono _ _ _)
   | (with_reducible exact LeO.refl _)
   | (with_reducible exact LeO.none _)
   | (with_reducible refine LeO.ite ?_ ?_)
   | (with_reducible refine LeO.bind ?_ (fun _ => ?_))
   | exact ih0 _ _ _ _ _
   | exact lambrequinref09_Sorted.mono _ _
   | exact lambrequinref09_Vars.mono _ _ _
   | exact LeO.none _
   | refine LeO.ite ?_ ?_
   | refine LeO.bind ?_ (fun _ => ?_)
theorem lambrequinref09_Bound.mono : ∀ a0 a1 a2 k, LeO (lambrequinref09_Bound.f k a0 a1 a2) (lambrequinref09_Bound.f (k + 1) a0 a1 a2) := by
 intro a0 a1 a2 k
 have ih0 := lambrequinref09_Bound.mono_l k
 unfold lambrequinref09_Bound.f
 repeat' first
   | (with_reducible exact ih0 _ _ _ _ _)
   | (with_reducible exact lambrequinref09_Sorted.mono _ _)
   | (with_reducible exact lambrequinref09_Vars.mono _ _ _)
   | (with_reducible exact LeO.refl _)
   | (with_reducible exact LeO.none _)
   | (with_reducible refine LeO.ite ?_ ?_)
   | (with_reducible refine LeO.bind ?_ (fun _ => ?_))
   | exact ih0 _ _ _ _ _
   | exact lambrequinref09_Sorted.mono _ _
   | exact lambrequinref09_Vars.mono _ _ _
   | exact LeO.none _
   | refine LeO.ite ?_ ?_
   | refine LeO.bind ?_ (fun _ => ?_)
set_option maxHeartbeats 8000000 in
set_option maxRecDepth 100000 in
theorem lambrequinref09_Bound.calls (k : Nat) (a0_0 : ByteArray) (A0_1 : Option Addr) (c0_1 : Nat) (l0_1 : List (Term)) (A0_2 : Option Addr) (c0_2 : Nat) (l0_2 : List (Liter)) (r : List ByteArray) (w : World) (hr0_1 : Kd.C k45 w A0_1 l0_1.length l0_1) (hc0_1 : l0_1.length ≤ c0_1) (hr0_2 : Kd.C k47 w A0_2 l0_2.length l0_2) (hc0_2 : l0_2.length ≤ c0_2) (h : lambrequinref09_Bound.f k a0_0 l0_1 l0_2 = some r) :
  Calls Try.prog 37 #[.agg #[.string a0_0, .slice A0_1 l0_1.length c0_1, .slice A0_2 l0_2.length c0_2]] w fun e w' => ∃ v0_ : Value, e = .returned (v0_) ∧ Kd.R Kd.string 9 w' w.heap.size (fun _ => True) v0_ r ∧ Below w.heap.size w w' := by
 have hu27 := Try.underlying27
 have hu24 := Try.underlying24
 have HR0_1 := Aside0.mk hr0_1
 have HC0_1 := Aside0.mk hc0_1
 clear hr0_1 hc0_1
 have HR0_2 := Aside0.mk hr0_2
 have HC0_2 := Aside0.mk hc0_2
 clear hr0_2 hc0_2
 have HB := Aside0.mk (Below.refl w.heap.size w)
 have H : (lambrequinref09_Bound.l0 k ([] : List ByteArray) 0 a0_0 l0_1 l0_2) = some r := h
 clear h
 have H' := Aside0.mk H
 clear H
 go_enter Try.func37, Try.ntmps37
 go_wp2_with (first | ((with_reducible refine gate_dst (N := 1) rfl ?_); refine box_event ?hg (N := 1) ?hd (cs := #[.string a0_0, .slice A0_1 l0_1.length c0_1, .slice A0_2 l0_2.length c0_2]) (t := 27) ?hr ?_; (case hd => rfl); (case hg => rfl); (case hr => first | (go_simp; done) | (go_simp; rfl)); intro gb101 hg w2 hbox hb; have n0_ := Aside0.mk (below_step (by repeat (first | (with_reducible first | exact HB.out | apply below_alloc | apply pw_below_drewN | apply below_drew1) | exact HB.out)) hb); have n1_ := Aside0.mk (hbox); have n2_ := Aside0.mk ((by rw [hg]; exact (below_size (by repeat (first | (with_reducible first | exact HB.out | apply below_alloc | apply pw_below_drewN | apply below_drew1) | exact HB.out))) : w.heap.size ≤ gb101)); have n3_ := Aside0.mk ((by rw [hg]; exact (below_size (by repeat (first | (with_reducible first | exact HB.out | apply below_alloc | apply pw_below_drewN | apply below_drew1) | exact HB.out))) : w.heap.size ≤ gb101)); clear HB; have HB := n0_; have BK101 := n1_; have GW101 := n2_; have GE101 := n3_; clear n0_ n1_ n2_ n3_; clear hb hbox hg))
 go_loopg [3, 4] k (fun kq v3 v4 w' => ∃ (x3_1 : List ByteArray) (x4_1 : Int), v4 = .int .i64 x4_1 ∧ Aside0 (lambrequinref09_Bound.l0 kq x3_1 x4_1 a0_0 l0_1 l0_2 = some r) ∧ Aside0 (kq ≤ k) ∧ Aside0 (Kd.R Kd.string 9 w' w.heap.size (fun _ => True) v3 x3_1) ∧ Aside0 (w'.heap[gb101]? = some (.cells #[.string a0_0, (.slice A0_1 l0_1.length c0_1), (.slice A0_2 l0_2.length c0_2)] 27 (0, 0))) ∧ Aside0 (Below w.heap.size w w'))
 case atStart => exact ⟨(([] : List ByteArray)), (0), (by first | rfl | (simp; done) | (simp [*]; done)), H', ⟨Nat.le_refl _⟩, ⟨by first | exact Kd.R_nil _ _ _ _ _ | exact Kd.N_nil _ _ _ _ _ | exact Kd.V_nil _ _ _ _ _ | exact Kd.Q_nil _ _ _ _ _ | exact Kd.S_nil _ _ _ _ _⟩, ⟨by (with_reducible repeat (first | refine blk_drewN ?_ _ | refine blk_drew ?_ | refine blk_alloc ?_ _)); exact BK101.out⟩, ⟨by repeat (first | (with_reducible first | exact HB.out | apply below_alloc | apply pw_below_drewN | apply below_drew1 | refine below_set ?_ GE101.out) | exact HB.out)⟩⟩
 case round =>
  clear H'
  try clear p2
  obtain ⟨x3_1, x4_1, rfl, HA, HK1, HO_3, BK101, HB⟩ := hrel
  cases gk with
  | zero => exact absurd HA.out (by simp [lambrequinref09_Bound.l0])
  | succ k1 =>
   have H := HA.out
   clear HA
   simp only [lambrequinref09_Bound.l0] at H
   by_cases c3 : x4_1 < (l0_2.length : Int)
   ·rw [if_pos c3] at H
    have c3b0 : decide (x4_1 < (l0_2.length : Int)) = true := decide_eq_true c3
    clear c3
    by_cases c4 : 0 ≤ x4_1
    ·rw [if_pos c4] at H
     have c4b0 : decide (0 ≤ x4_1) = true := decide_eq_true c4
     clear c4
     by_cases c5 : ((rd_T47 l0_2 x4_1).kind) = 1
     ·rw [if_pos c5] at H
      have c5b0 : (((rd_T47 l0_2 x4_1).kind) == 1) = true := beq_iff_eq.mpr c5
      have c5b1 : (((rd_T47 l0_2 x4_1).kind) != 1) = false := bne_eq_false_iff_eq.mpr c5
      clear c5
      replace H := Option.bind_eq_some_iff.mp H
      obtain ⟨t104, A60, H⟩ := H
      replace H : (if x3_1.length + t104.length < 8796093022208 then (lambrequinref09_Bound.l0 k1 (x3_1 ++ t104) (wrap64 (x4_1 + 1)) a0_0 l0_1 l0_2) else (none)) = some r := H
      have A6 := Aside0.mk A60
      clear A60
      by_cases c7 : x3_1.length + t104.length < 8796093022208
      ·rw [if_pos c7] at H
       have LMc7 := Aside0.mk c7
       clear c7
       obtain ⟨y107, hy107⟩ : ∃ y_ : List ByteArray, y_ = (x3_1 ++ t104) := ⟨_, rfl⟩
       replace H : (lambrequinref09_Bound.l0 k1 y107 (wrap64 (x4_1 + 1)) a0_0 l0_1 l0_2) = some r := by first | (rw [hy107]; with_reducible exact H) | (have H2_ := (Option.bind_some _ _).symm.trans H; rw [hy107]; with_reducible exact H2_) | (have H2_ := (Option.bind_some _ _).symm.trans H; with_reducible exact H2_) | with_reducible exact H | (rw [hy107]; exact H) | exact H
       have Ny107 := Aside0.mk hy107
       clear hy107
       have H' := Aside0.mk H
       clear H
       have hcz8_0 : wr.cell? ⟨gb101, 0, none⟩ = some (.string a0_0) := (blk_cell BK101.out 0).trans rfl
       have hcz8_1 : wr.cell? ⟨gb101, 1, none⟩ = some (.slice A0_1 l0_1.length c0_1) := (blk_cell BK101.out 1).trans rfl
       have hcz8_2 : wr.cell? ⟨gb101, 2, none⟩ = some (.slice A0_2 l0_2.length c0_2) := (blk_cell BK101.out 2).trans rfl
       have hfz8_0 := blk_frozen BK101.out 0
       have hfz8_1 := blk_frozen BK101.out 1
       have hfz8_2 := blk_frozen BK101.out 2
       have p102 : 0 ≤ (x4_1 : Int) := of_decide_eq_true (by first | (with_reducible assumption) | assumption)
       have q102 : x4_1 < (l0_2.length : Int) := of_decide_eq_true (by first | (with_reducible assumption) | assumption)
       obtain ⟨ad102, A102_2, c102_2, e102, hx102_0, hx102_1, hx102_2, hx102_3, hx102_4, hx102_5, hx102_6, hx102_7, hx102_8, hx102_9, hx102_10, hx102_11, hx102_12, hx102_13, hl102_2, hi102_2⟩ := at_T47 HR0_2.out x4_1 p102 q102
       cases e102
       replace hx102_0 := (HB.out.cell (blt_ hx102_0)).trans hx102_0
       replace hx102_1 := (HB.out.cell (blt_ hx102_1)).trans hx102_1
       replace hx102_2 := (HB.out.cell (blt_ hx102_2)).trans hx102_2
       replace hx102_3 := (HB.out.cell (blt_ hx102_3)).trans hx102_3
       replace hx102_4 := (HB.out.cell (blt_ hx102_4)).trans hx102_4
       replace hx102_5 := (HB.out.cell (blt_ hx102_5)).trans hx102_5
       replace hx102_6 := (HB.out.cell (blt_ hx102_6)).trans hx102_6
       replace hx102_7 := (HB.out.cell (blt_ hx102_7)).trans hx102_7
       replace hx102_8 := (HB.out.cell (blt_ hx102_8)).trans hx102_8
       replace hx102_9 := (HB.out.cell (blt_ hx102_9)).trans hx102_9
       replace hx102_10 := (HB.out.cell (blt_ hx102_10)).trans hx102_10
       replace hx102_11 := (HB.out.cell (blt_ hx102_11)).trans hx102_11
       replace hx102_12 := (HB.out.cell (blt_ hx102_12)).trans hx102_12
       replace hx102_13 := (HB.out.cell (blt_ hx102_13)).trans hx102_13
       have HR102_2 := Aside0.mk hi102_2
       have HC102_2 := Aside0.mk hl102_2
       clear hi102_2 hl102_2
       replace p102 := eq_true p102
       replace q102 := eq_true q102
       have p103 : 0 ≤ (x4_1 : Int) := of_decide_eq_true (by first | (with_reducible assumption) | assumption)
       have q103 : x4_1 < (l0_2.length : Int) := of_decide_eq_true (by first | (with_reducible assumption) | assumption)
       obtain ⟨ad103, A103_2, c103_2, e103, hx103_0, hx103_1, hx103_2, hx103_3, hx103_4, hx103_5, hx103_6, hx103_7, hx103_8, hx103_9, hx103_10, hx103_11, hx103_12, hx103_13, hl103_2, hi103_2⟩ := at_T47 HR0_2.out x4_1 p103 q103
       obtain rfl : ad102 = ad103 := (by injection e103)
       replace hx103_0 := (HB.out.cell (blt_ hx103_0)).trans hx103_0
       replace hx103_1 := (HB.out.cell (blt_ hx103_1)).trans hx103_1
       replace hx103_2 := (HB.out.cell (blt_ hx103_2)).trans hx103_2
       replace hx103_3 := (HB.out.cell (blt_ hx103_3)).trans hx103_3
       replace hx103_4 := (HB.out.cell (blt_ hx103_4)).trans hx103_4
       replace hx103_5 := (HB.out.cell (blt_ hx103_5)).trans hx103_5
       replace hx103_6 := (HB.out.cell (blt_ hx103_6)).trans hx103_6
       replace hx103_7 := (HB.out.cell (blt_ hx103_7)).trans hx103_7
       replace hx103_8 := (HB.out.cell (blt_ hx103_8)).trans hx103_8
       replace hx103_9 := (HB.out.cell (blt_ hx103_9)).trans hx103_9
       replace hx103_10 := (HB.out.cell (blt_ hx103_10)).trans hx103_10
       replace hx103_11 := (HB.out.cell (blt_ hx103_11)).trans hx103_11
       replace hx103_12 := (HB.out.cell (blt_ hx103_12)).trans hx103_12
       replace hx103_13 := (HB.out.cell (blt_ hx103_13)).trans hx103_13
       have HR103_2 := Aside0.mk hi103_2
       have HC103_2 := Aside0.mk hl103_2
       clear hi103_2 hl103_2
       replace p103 := eq_true p103
       replace q103 := eq_true q103
       have ea_ := Option.some.inj (hx102_2.symm.trans hx103_2)
       injection ea_ with ea_ en_ ec_
       subst ea_
       subst ec_
       clear en_
       go_wp2_with (first | ((with_reducible refine gate_callee (f := 22) rfl ?_); refine goesL_ (some 26) rfl rfl Try.func22 (by kernel_rfl) rfl #[.agg #[.string ((rd_T47 l0_2 x4_1).atom.pred), .slice A102_2 ((rd_T47 l0_2 x4_1).atom.args).length c102_2]] rfl (by (try simp only [List.map_toArray, List.map_cons, List.map_nil]); first | done | rfl | (simp only [List.length_drop, List.length_take]; rfl)) ?_; (with_reducible refine (lambrequinref09_Vars.calls k1 ((rd_T47 l0_2 x4_1).atom.pred) _ _ ((rd_T47 l0_2 x4_1).atom.args) t104 _ ?side1 ?side2 A6.out).mono ?_); (case side1 => repeat (first | exact (Kd.C_below HR103_2.out HB.out) | (with_reducible refine Kd.C_alloc ?_ _) | (with_reducible refine Kd.C_drewN ?_ _) | (with_reducible refine Kd.C_drew ?_))); (case side2 => exact HC103_2.out); rintro e w9 ⟨v105, rfl, ho0, hb⟩; refine ⟨_, rfl, ?_⟩; have n0_ := Aside0.mk (Kd.R_elder' (by (with_reducible repeat (first | apply Kd.R_alloc | apply Kd.R_drewN | apply Kd.R_drew)); exact HO_3.out) (Kd.R_base ho0) hb); have n1_ := Aside0.mk (Kd.R_lower (Kd.R_new' ho0 (Kd.R_lt (by (with_reducible repeat (first | apply Kd.R_alloc | apply Kd.R_drewN | apply Kd.R_drew)); exact HO_3.out))) (below_size (by repeat (first | (with_reducible first | exact HB.out | apply below_alloc | apply pw_below_drewN | apply below_drew1 | refine below_set ?_ GE101.out) | exact HB.out)))); have n2_ := Aside0.mk (blk_below (g := gb101) (o := .cells #[.string a0_0, .slice A0_1 l0_1.length c0_1, .slice (some ad102) l0_2.length c0_2] 27 (0, 0)) (by (with_reducible repeat (first | refine blk_drewN ?_ _ | refine blk_drew ?_ | refine blk_alloc ?_ _)); exact BK101.out) hb); have n3_ := Aside0.mk (below_step (by repeat (first | (with_reducible first | exact HB.out | apply below_alloc | apply pw_below_drewN | apply below_drew1 | refine below_set ?_ GE101.out) | exact HB.out)) hb); clear HO_3; clear BK101; clear HB; have HO_3 := n0_; have HO106 := n1_; have BK101 := n2_; have HB := n3_; clear n0_ n1_ n2_ n3_; (try clear hb); (try clear hb2); (try clear hk); (try clear hi); (try clear ho0); obtain ⟨Ao11, co11, eo11⟩ := Kd.R_slice HO106.out; subst eo11) | ((with_reducible refine gate_builtin (b := .append) (xs := #[.tmp 19, .tmp 26]) rfl ?_); at_builtin; refine Kd.R_append_rows Kd.string (w0 := w) w.heap.size rfl (.tmp 19) (.tmp 26) 28 9 (.string ⟨#[]⟩) 16 rfl Try.underlying28 info9 rfl (by decide) (by omega) u3 x3_1 t104 _ _ _ (fun k_ => some k_ ≠ (.slice Ao11 t104.length co11 : Value).ownBlock) (fun _ => False) rfl rfl ?aO ?aR (fun _ _ h => h) (fun _ h => h.elim) ?aF ?aB ?aS ?aL ?_; (case aR => repeat (first | exact (Kd.R_reads' HO106.out).2.2 | (with_reducible refine Kd.C_alloc ?_ _) | (with_reducible refine Kd.C_drewN ?_ _) | (with_reducible refine Kd.C_drew ?_))); (case aB => exact (by repeat (first | (with_reducible first | exact HB.out | apply below_alloc | apply pw_below_drewN | apply below_drew1 | refine below_set ?_ GE101.out) | exact HB.out))); (case aF => exact (fun k_ hk => Kd.fresh' (Kd.R_lt (by (with_reducible repeat (first | apply Kd.R_alloc | apply Kd.R_drewN | apply Kd.R_drew)); exact HO106.out)) k_ hk)); (case aO => exact (by (with_reducible repeat (first | apply Kd.R_alloc | apply Kd.R_drewN | apply Kd.R_drew)); exact Kd.R_mono HO_3.out (fun _ hk => hk.2))); (case aS => exact (below_size (by repeat (first | (with_reducible first | exact HB.out | apply below_alloc | apply pw_below_drewN | apply below_drew1 | refine below_set ?_ GE101.out) | exact HB.out)))); (case aL => have := LMc7.out; omega); intro v108 w10 ho hb hg hat; rw [← Ny107.out] at ho; have n0_ := Aside0.mk (blk_grown (g := gb101) (o := .cells #[.string a0_0, .slice A0_1 l0_1.length c0_1, .slice (some ad102) l0_2.length c0_2] 27 (0, 0)) (by (with_reducible repeat (first | refine blk_drewN ?_ _ | refine blk_drew ?_ | refine blk_alloc ?_ _)); exact BK101.out) hg (Kd.R_ne HO_3.out BK101.out (by decide))); have n1_ := Aside0.mk (Kd.R_after (ok := (fun _ => True)) (by (with_reducible repeat (first | apply Kd.R_alloc | apply Kd.R_drewN | apply Kd.R_drew)); exact HO106.out) hg hat); have n2_ := Aside0.mk (hb); have n3_ := Aside0.mk (ho); clear BK101; clear HO106; clear HB; clear HO_3; have BK101 := n0_; have HO106 := n1_; have HB := n2_; have HO109 := n3_; clear n0_ n1_ n2_ n3_; clear ho hb hg hat))
       go_roundg k1
       case measure => have := HK1.out; omega
       case rel => exact ⟨(y107), (wrap64 (x4_1 + 1)), (by first | rfl | (simp; done) | (simp [*]; done)), H', ⟨by have := HK1.out; omega⟩, ⟨by (with_reducible repeat (first | apply Kd.R_alloc | apply Kd.R_drewN | apply Kd.R_drew)); exact Kd.R_mono HO109.out (fun _ hk => trivial)⟩, ⟨by (with_reducible repeat (first | refine blk_drewN ?_ _ | refine blk_drew ?_ | refine blk_alloc ?_ _)); exact BK101.out⟩, ⟨by repeat (first | (with_reducible first | exact HB.out | apply below_alloc | apply pw_below_drewN | apply below_drew1 | refine below_set ?_ GE101.out) | exact HB.out)⟩⟩
      ·rw [if_neg c7] at H
       exact absurd H (by simp)
     ·rw [if_neg c5] at H
      have c5b0 : (((rd_T47 l0_2 x4_1).kind) == 1) = false := beq_eq_false_iff_ne.mpr c5
      have c5b1 : (((rd_T47 l0_2 x4_1).kind) != 1) = true := bne_iff_ne.mpr c5
      have H' := Aside0.mk H
      clear H
      have hcz12_0 : wr.cell? ⟨gb101, 0, none⟩ = some (.string a0_0) := (blk_cell BK101.out 0).trans rfl
      have hcz12_1 : wr.cell? ⟨gb101, 1, none⟩ = some (.slice A0_1 l0_1.length c0_1) := (blk_cell BK101.out 1).trans rfl
      have hcz12_2 : wr.cell? ⟨gb101, 2, none⟩ = some (.slice A0_2 l0_2.length c0_2) := (blk_cell BK101.out 2).trans rfl
      have hfz12_0 := blk_frozen BK101.out 0
      have hfz12_1 := blk_frozen BK101.out 1
      have hfz12_2 := blk_frozen BK101.out 2
      have p102 : 0 ≤ (x4_1 : Int) := of_decide_eq_true (by first | (with_reducible assumption) | assumption)
      have q102 : x4_1 < (l0_2.length : Int) := of_decide_eq_true (by first | (with_reducible assumption) | assumption)
      obtain ⟨ad102, A102_2, c102_2, e102, hx102_0, hx102_1, hx102_2, hx102_3, hx102_4, hx102_5, hx102_6, hx102_7, hx102_8, hx102_9, hx102_10, hx102_11, hx102_12, hx102_13, hl102_2, hi102_2⟩ := at_T47 HR0_2.out x4_1 p102 q102
      cases e102
      replace hx102_0 := (HB.out.cell (blt_ hx102_0)).trans hx102_0
      replace hx102_1 := (HB.out.cell (blt_ hx102_1)).trans hx102_1
      replace hx102_2 := (HB.out.cell (blt_ hx102_2)).trans hx102_2
      replace hx102_3 := (HB.out.cell (blt_ hx102_3)).trans hx102_3
      replace hx102_4 := (HB.out.cell (blt_ hx102_4)).trans hx102_4
      replace hx102_5 := (HB.out.cell (blt_ hx102_5)).trans hx102_5
      replace hx102_6 := (HB.out.cell (blt_ hx102_6)).trans hx102_6
      replace hx102_7 := (HB.out.cell (blt_ hx102_7)).trans hx102_7
      replace hx102_8 := (HB.out.cell (blt_ hx102_8)).trans hx102_8
      replace hx102_9 := (HB.out.cell (blt_ hx102_9)).trans hx102_9
      replace hx102_10 := (HB.out.cell (blt_ hx102_10)).trans hx102_10
      replace hx102_11 := (HB.out.cell (blt_ hx102_11)).trans hx102_11
      replace hx102_12 := (HB.out.cell (blt_ hx102_12)).trans hx102_12
      replace hx102_13 := (HB.out.cell (blt_ hx102_13)).trans hx102_13
      have HR102_2 := Aside0.mk hi102_2
      have HC102_2 := Aside0.mk hl102_2
      clear hi102_2 hl102_2
      replace p102 := eq_true p102
      replace q102 := eq_true q102
      go_wp2
      go_roundg k1
      case measure => have := HK1.out; omega
      case rel => exact ⟨(x3_1), (wrap64 (x4_1 + 1)), (by first | rfl | (simp; done) | (simp [*]; done)), H', ⟨by have := HK1.out; omega⟩, ⟨by (with_reducible repeat (first | apply Kd.R_alloc | apply Kd.R_drewN | apply Kd.R_drew)); exact HO_3.out⟩, ⟨by (with_reducible repeat (first | refine blk_drewN ?_ _ | refine blk_drew ?_ | refine blk_alloc ?_ _)); exact BK101.out⟩, ⟨by repeat (first | (with_reducible first | exact HB.out | apply below_alloc | apply pw_below_drewN | apply below_drew1 | refine below_set ?_ GE101.out) | exact HB.out)⟩⟩
    ·rw [if_neg c4] at H
     exact absurd H (by simp)
   ·rw [if_neg c3] at H
    have c3b0 : decide (x4_1 < (l0_2.length : Int)) = false := decide_eq_false c3
    clear c3
    replace H := Option.bind_eq_some_iff.mp H
    obtain ⟨t110, A130, H⟩ := H
    replace H : (some t110) = some r := H
    have A13 := Aside0.mk A130
    clear A130
    obtain rfl := Option.some.inj H
    have hcz14_0 : wr.cell? ⟨gb101, 0, none⟩ = some (.string a0_0) := (blk_cell BK101.out 0).trans rfl
    have hcz14_1 : wr.cell? ⟨gb101, 1, none⟩ = some (.slice A0_1 l0_1.length c0_1) := (blk_cell BK101.out 1).trans rfl
    have hcz14_2 : wr.cell? ⟨gb101, 2, none⟩ = some (.slice A0_2 l0_2.length c0_2) := (blk_cell BK101.out 2).trans rfl
    have hfz14_0 := blk_frozen BK101.out 0
    have hfz14_1 := blk_frozen BK101.out 1
    have hfz14_2 := blk_frozen BK101.out 2
    obtain ⟨Ao15, co15, eo15⟩ := Kd.R_slice HO_3.out
    subst eo15
    go_wp2_with (first | ((with_reducible refine gate_callee (f := 53) rfl ?_); refine goesL_ (some 29) rfl rfl Try.func53 (by kernel_rfl) rfl #[.slice Ao15 x3_1.length co15] rfl (by (try simp only [List.map_toArray, List.map_cons, List.map_nil]); first | done | rfl | (simp only [List.length_drop, List.length_take]; rfl)) ?_; (with_reducible refine (lambrequinref09_Sorted.calls k1 _ _ x3_1 t110 _ ?side1 ?side2 A13.out).mono ?_); (case side1 => repeat (first | exact (Kd.R_reads' HO_3.out).2.2 | (with_reducible refine Kd.C_alloc ?_ _) | (with_reducible refine Kd.C_drewN ?_ _) | (with_reducible refine Kd.C_drew ?_))); (case side2 => exact (Kd.R_reads' HO_3.out).2.1); rintro e w16 ⟨v111, rfl, ho0, hb⟩; refine ⟨_, rfl, ?_⟩; have n0_ := Aside0.mk (Kd.R_elder' (by (with_reducible repeat (first | apply Kd.R_alloc | apply Kd.R_drewN | apply Kd.R_drew)); exact HO_3.out) (Kd.R_base ho0) hb); have n1_ := Aside0.mk (Kd.R_lower (Kd.R_new' ho0 (Kd.R_lt (by (with_reducible repeat (first | apply Kd.R_alloc | apply Kd.R_drewN | apply Kd.R_drew)); exact HO_3.out))) (below_size (by repeat (first | (with_reducible first | exact HB.out | apply below_alloc | apply pw_below_drewN | apply below_drew1 | refine below_set ?_ GE101.out) | exact HB.out)))); have n2_ := Aside0.mk (blk_below (g := gb101) (o := .cells #[.string a0_0, .slice A0_1 l0_1.length c0_1, .slice A0_2 l0_2.length c0_2] 27 (0, 0)) (by (with_reducible repeat (first | refine blk_drewN ?_ _ | refine blk_drew ?_ | refine blk_alloc ?_ _)); exact BK101.out) hb); have n3_ := Aside0.mk (below_step (by repeat (first | (with_reducible first | exact HB.out | apply below_alloc | apply pw_below_drewN | apply below_drew1 | refine below_set ?_ GE101.out) | exact HB.out)) hb); clear HO_3; clear BK101; clear HB; have HO_3 := n0_; have HO112 := n1_; have BK101 := n2_; have HB := n3_; clear n0_ n1_ n2_ n3_; (try clear hb); (try clear hb2); (try clear hk); (try clear hi); (try clear ho0)))
    go_ret
    exact ⟨_, by first | rfl | (simp [errW_none, errW_some] <;> rfl) | (simp [*, errW_none, errW_some] <;> rfl), by (with_reducible repeat (first | apply Kd.R_alloc | apply Kd.R_drewN | apply Kd.R_drew)); exact Kd.R_mono HO112.out (fun _ hk => trivial), by repeat (first | (with_reducible first | exact HB.out | apply below_alloc | apply pw_below_drewN | apply below_drew1 | refine below_set ?_ GE101.out) | exact HB.out)⟩
end Go.Proofs.Ythpejcnldecmoaa.H
namespace Go.Proofs.Ythpejcnldecmoaa.H
open Go.RowKit Go.Proofs.YthpejcnldecmoaaW.PrintWords Go.Proofs.YthpejcnldecmoaaW.PrintLast Go.Proofs.YthpejcnldecmoaaW.PrintMore
attribute [local go_sem] max2_int min2_int max_two min_two max_three min_three max_four min_four
set_option linter.unusedVariables false
set_option linter.unusedSimpArgs false
def safe_All.l0 : Nat → List (Rule) → Int → Int → Option (Int × ByteArray × Int × Int)
 | 0, _, _, _ => none
 | k + 1, x12, x13, x14 => if x14 < x13 then (if 0 ≤ x14 then (if x14 < (x12.length : Int) then ((safe_Check.f k ((rd_T27 x12 x14).head.pred) ((rd_T27 x12 x14).head.args) ((rd_T27 x12 x14).body)).bind fun bt104 => (if bt104.2.2 = 0 then (safe_All.l0 k x12 x13 (wrap64 (x14 + 1))) else (some (x14, bt104.1, bt104.2.1, bt104.2.2)))) else (none)) else (none)) else (some (0, (⟨#[]⟩ : ByteArray), 0, 0))
def safe_All.f (k : Nat) (l0_0 : List (Decl)) (l0_1 : List (Rule)) : Option (Int × ByteArray × Int × Int) := safe_All.l0 k l0_1 (l0_1.length : Int) 0
theorem safe_All.mono_l : ∀ k, (∀ y0 y1 y2, LeO (safe_All.l0 k y0 y1 y2) (safe_All.l0 (k + 1) y0 y1 y2))
 | 0 => fun _ _ _ r h => by simp [safe_All.l0] at h
 | k + 1 => by
  have ih0 := safe_All.mono_l k
  ·intro y0 y1 y2
   unfold safe_All.l0
   repeat' first
   | (with_reducible exact ih0 _ _ _)
   | (with_reducible exact safe_Check.mono _ _ _ _)
   | (with_reducible exact LeO.refl _)
   | (with_reducible exact LeO.none _)
   | (with_reducible refine LeO.ite ?_ ?_)
   | (with_reducible refine LeO.bind ?_ (fun _ => ?_))
   | exact ih0 _ _ _
   | exact safe_Check.mono _ _ _ _
   | exact LeO.none _
   | refine LeO.ite ?_ ?_
   | refine LeO.bind ?_ (fun _ => ?_)
theorem safe_All.mono : ∀ a0 a1 k, LeO (safe_All.f k a0 a1) (safe_All.f (k + 1) a0 a1) := by
 intro a0 a1 k
 have ih0 := safe_All.mono_l k
 unfold safe_All.f
 repeat' first
   | (with_reducible exact ih0 _ _ _)
   | (with_reducible exact safe_Check.mono _ _ _ _)
   | (with_reducible exact LeO.refl _)
   | (with_reducible exact LeO.none _)
   | (with_reducible refine LeO.ite ?_ ?_)
   | (with_reducible refine LeO.bind ?_ (fun _ => ?_))
   | exact ih0 _ _ _
   | exact safe_Check.mono _ _ _ _
   | exact LeO.none _
   | refine LeO.ite ?_ ?_
   | refine LeO.bind ?_ (fun _ => ?_)
set_option maxHeartbeats 8000000 in
set_option maxRecDepth 100000 in
theorem safe_All.calls (k : Nat) (A0_0 : Option Addr) (c0_0 : Nat) (l0_0 : List (Decl)) (A0_1 : Option Addr) (c0_1 : Nat) (l0_1 : List (Rule)) (r1 : Int) (r2 : ByteArray) (r3 : Int) (r4 : Int) (w : World) (hr0_0 : Kd.C k137 w A0_0 l0_0.length l0_0) (hc0_0 : l0_0.length ≤ c0_0) (hr0_1 : Kd.C k27 w A0_1 l0_1.length l0_1) (hc0_1 : l0_1.length ≤ c0_1) (h : safe_All.f k l0_0 l0_1 = some (r1, r2, r3, r4)) :
  Calls Try.prog 35 #[.agg #[.slice A0_0 l0_0.length c0_0, .slice A0_1 l0_1.length c0_1]] w fun e w' => e = .returned (.tuple #[.int .i64 r1, .string r2, .int .i64 r3, .int .i64 r4]) ∧ Below w.heap.size w w' := by
 have hu66 := Try.underlying66
 have hu27 := Try.underlying27
 have HR0_0 := Aside0.mk hr0_0
 have HC0_0 := Aside0.mk hc0_0
 clear hr0_0 hc0_0
 have HR0_1 := Aside0.mk hr0_1
 have HC0_1 := Aside0.mk hc0_1
 clear hr0_1 hc0_1
 have HB := Aside0.mk (Below.refl w.heap.size w)
 have H : (safe_All.l0 k l0_1 (l0_1.length : Int) 0) = some (r1, r2, r3, r4) := h
 clear h
 have H' := Aside0.mk H
 clear H
 go_enter Try.func35, Try.ntmps35
 go_wp2_with (first | ((with_reducible refine gate_dst (N := 1) rfl ?_); refine box_event ?hg (N := 1) ?hd (cs := #[.slice A0_0 l0_0.length c0_0, .slice A0_1 l0_1.length c0_1]) (t := 66) ?hr ?_; (case hd => rfl); (case hg => rfl); (case hr => first | (go_simp; done) | (go_simp; rfl)); intro gb101 hg w2 hbox hb; have n0_ := Aside0.mk (below_step (by repeat (first | (with_reducible first | exact HB.out | apply below_alloc | apply pw_below_drewN | apply below_drew1) | exact HB.out)) hb); have n1_ := Aside0.mk (hbox); have n2_ := Aside0.mk ((by rw [hg]; exact (below_size (by repeat (first | (with_reducible first | exact HB.out | apply below_alloc | apply pw_below_drewN | apply below_drew1) | exact HB.out))) : w.heap.size ≤ gb101)); have n3_ := Aside0.mk ((by rw [hg]; exact (below_size (by repeat (first | (with_reducible first | exact HB.out | apply below_alloc | apply pw_below_drewN | apply below_drew1) | exact HB.out))) : w.heap.size ≤ gb101)); clear HB; have HB := n0_; have BK101 := n1_; have GW101 := n2_; have GE101 := n3_; clear n0_ n1_ n2_ n3_; clear hb hbox hg; have hcz3_0 : w2.cell? ⟨gb101, 0, none⟩ = some (.slice A0_0 l0_0.length c0_0) := (blk_cell BK101.out 0).trans rfl; have hcz3_1 : w2.cell? ⟨gb101, 1, none⟩ = some (.slice A0_1 l0_1.length c0_1) := (blk_cell BK101.out 1).trans rfl; have hfz3_0 := blk_frozen BK101.out 0; have hfz3_1 := blk_frozen BK101.out 1))
 go_loopg [14] k (fun kq v14 w' => ∃ (x14_1 : Int), v14 = .int .i64 x14_1 ∧ Aside0 (safe_All.l0 kq l0_1 (l0_1.length : Int) x14_1 = some (r1, r2, r3, r4)) ∧ Aside0 (kq ≤ k) ∧ Aside0 (w'.heap[gb101]? = some (.cells #[(.slice A0_0 l0_0.length c0_0), (.slice A0_1 l0_1.length c0_1)] 66 (0, 0))) ∧ Aside0 (Below w.heap.size w w'))
 case atStart => exact ⟨(0), (by first | rfl | (simp; done) | (simp [*]; done)), H', ⟨Nat.le_refl _⟩, ⟨by (with_reducible repeat (first | refine blk_drewN ?_ _ | refine blk_drew ?_ | refine blk_alloc ?_ _)); exact BK101.out⟩, ⟨by repeat (first | (with_reducible first | exact HB.out | apply below_alloc | apply pw_below_drewN | apply below_drew1 | refine below_set ?_ GE101.out) | exact HB.out)⟩⟩
 case round =>
  clear H'
  try clear p2
  try clear c3
  try clear hcz3_0
  try clear hcz3_1
  try clear hfz3_0
  try clear hfz3_1
  obtain ⟨x14_1, rfl, HA, HK1, BK101, HB⟩ := hrel
  cases gk with
  | zero => exact absurd HA.out (by simp [safe_All.l0])
  | succ k1 =>
   have H := HA.out
   clear HA
   simp only [safe_All.l0] at H
   by_cases c4 : x14_1 < (l0_1.length : Int)
   ·rw [if_pos c4] at H
    have c4b0 : decide (x14_1 < (l0_1.length : Int)) = true := decide_eq_true c4
    clear c4
    by_cases c5 : 0 ≤ x14_1
    ·rw [if_pos c5] at H
     have c5b0 : decide (0 ≤ x14_1) = true := decide_eq_true c5
     clear c5
     by_cases c6 : x14_1 < (l0_1.length : Int)
     ·rw [if_pos c6] at H
      have c6b0 : decide (x14_1 < (l0_1.length : Int)) = true := decide_eq_true c6
      clear c6
      replace H := Option.bind_eq_some_iff.mp H
      obtain ⟨⟨t104, t105, t106⟩, A70, H⟩ := H
      replace H : (if t106 = 0 then (safe_All.l0 k1 l0_1 (l0_1.length : Int) (wrap64 (x14_1 + 1))) else (some (x14_1, t104, t105, t106))) = some (r1, r2, r3, r4) := H
      have A7 := Aside0.mk A70
      clear A70
      by_cases c8 : t106 = 0
      ·rw [if_pos c8] at H
       have c8b0 : (t106 == 0) = true := beq_iff_eq.mpr c8
       have c8b1 : (t106 != 0) = false := bne_eq_false_iff_eq.mpr c8
       clear c8
       have H' := Aside0.mk H
       clear H
       have p102 : 0 ≤ (x14_1 : Int) := of_decide_eq_true (by first | (with_reducible assumption) | assumption)
       have q102 : x14_1 < (l0_1.length : Int) := of_decide_eq_true (by first | (with_reducible assumption) | assumption)
       obtain ⟨ad102, A102_1, c102_1, A102_2, c102_2, e102, hx102_0, hx102_1, hx102_2, hl102_1, hi102_1, hl102_2, hi102_2⟩ := at_T27 HR0_1.out x14_1 p102 q102
       cases e102
       replace hx102_0 := (HB.out.cell (blt_ hx102_0)).trans hx102_0
       replace hx102_1 := (HB.out.cell (blt_ hx102_1)).trans hx102_1
       replace hx102_2 := (HB.out.cell (blt_ hx102_2)).trans hx102_2
       have HR102_1 := Aside0.mk hi102_1
       have HC102_1 := Aside0.mk hl102_1
       clear hi102_1 hl102_1
       have HR102_2 := Aside0.mk hi102_2
       have HC102_2 := Aside0.mk hl102_2
       clear hi102_2 hl102_2
       replace p102 := eq_true p102
       replace q102 := eq_true q102
       go_wp2_with (first | ((with_reducible refine gate_dst (N := 7) rfl ?_); refine box_event ?hg (N := 7) ?hd (cs := #[.string (⟨#[]⟩ : ByteArray), .slice none 0 0, .slice none 0 0]) (t := 27) ?hr ?_; (case hd => rfl); (case hg => rfl); (case hr => first | (go_simp; done) | (go_simp; rfl)); intro gb103 hg w9 hbox hb; have n0_ := Aside0.mk (blk_below (g := gb101) (o := .cells #[.slice A0_0 l0_0.length c0_0, .slice (some ad102) l0_1.length c0_1] 66 (0, 0)) (by (with_reducible repeat (first | refine blk_drewN ?_ _ | refine blk_drew ?_ | refine blk_alloc ?_ _)); exact BK101.out) hb); have n1_ := Aside0.mk (below_step (by repeat (first | (with_reducible first | exact HB.out | apply below_alloc | apply pw_below_drewN | apply below_drew1 | refine below_set ?_ GE101.out) | exact HB.out)) hb); have n2_ := Aside0.mk (hbox); have n3_ := Aside0.mk ((by rw [hg]; exact (below_size (by repeat (first | (with_reducible first | exact HB.out | apply below_alloc | apply pw_below_drewN | apply below_drew1 | refine below_set ?_ GE101.out) | exact HB.out))) : w.heap.size ≤ gb103)); have n4_ := Aside0.mk ((by rw [hg]; exact (below_size (by repeat (first | (with_reducible first | exact HB.out | apply below_alloc | apply pw_below_drewN | apply below_drew1 | refine below_set ?_ GE101.out) | exact HB.out))) : w.heap.size ≤ gb103)); have n5_ := Aside0.mk ((by rw [hg]; exact Nat.ne_of_lt (blk_lt (g := gb101) (o := .cells #[.slice A0_0 l0_0.length c0_0, .slice (some ad102) l0_1.length c0_1] 66 (0, 0)) (by (with_reducible repeat (first | refine blk_drewN ?_ _ | refine blk_drew ?_ | refine blk_alloc ?_ _)); exact BK101.out)) : gb101 ≠ gb103)); have n6_ := Aside0.mk ((by rw [hg]; exact Nat.ne_of_gt (blk_lt (g := gb101) (o := .cells #[.slice A0_0 l0_0.length c0_0, .slice (some ad102) l0_1.length c0_1] 66 (0, 0)) (by (with_reducible repeat (first | refine blk_drewN ?_ _ | refine blk_drew ?_ | refine blk_alloc ?_ _)); exact BK101.out)) : gb103 ≠ gb101)); clear BK101; clear HB; have BK101 := n0_; have HB := n1_; have BK103 := n2_; have GW103 := n3_; have GE103 := n4_; have NB101_103 := n5_; have NB103_101 := n6_; clear n0_ n1_ n2_ n3_ n4_ n5_ n6_; clear hb hbox hg; have hnb10 := NB103_101.out; have hnc10 := NB101_103.out; have hcz11_0 : w9.cell? ⟨gb103, 0, none⟩ = some (.string (⟨#[]⟩ : ByteArray)) := (blk_cell BK103.out 0).trans rfl; have hcz11_1 : w9.cell? ⟨gb103, 1, none⟩ = some (.slice none 0 0) := (blk_cell BK103.out 1).trans rfl; have hcz11_2 : w9.cell? ⟨gb103, 2, none⟩ = some (.slice none 0 0) := (blk_cell BK103.out 2).trans rfl; have hfz11_0 := blk_frozen BK103.out 0; have hfz11_1 := blk_frozen BK103.out 1; have hfz11_2 := blk_frozen BK103.out 2) | ((with_reducible refine gate_callee (f := 28) rfl ?_); refine goesL_ (some 21) rfl rfl Try.func28 (by kernel_rfl) rfl #[.agg #[.string ((rd_T27 l0_1 x14_1).head.pred), .slice A102_1 ((rd_T27 l0_1 x14_1).head.args).length c102_1, .slice A102_2 ((rd_T27 l0_1 x14_1).body).length c102_2]] rfl (by (try simp only [List.map_toArray, List.map_cons, List.map_nil]); first | done | rfl | (simp only [List.length_drop, List.length_take]; rfl)) ?_; (with_reducible refine (safe_Check.calls k1 ((rd_T27 l0_1 x14_1).head.pred) _ _ ((rd_T27 l0_1 x14_1).head.args) _ _ ((rd_T27 l0_1 x14_1).body) t104 t105 t106 _ ?side1 ?side2 ?side3 ?side4 A7.out).mono ?_); (case side1 => exact Kd.C_below HR102_1.out (by repeat (first | (with_reducible first | exact HB.out | apply below_alloc | apply pw_below_drewN | apply below_drew1 | refine below_set ?_ GE101.out | refine below_set ?_ GE103.out) | exact HB.out))); (case side2 => exact HC102_1.out); (case side3 => exact Kd.C_below HR102_2.out (by repeat (first | (with_reducible first | exact HB.out | apply below_alloc | apply pw_below_drewN | apply below_drew1 | refine below_set ?_ GE101.out | refine below_set ?_ GE103.out) | exact HB.out))); (case side4 => exact HC102_2.out); rintro e w12 ⟨rfl, hb⟩; refine ⟨_, rfl, ?_⟩; have n0_ := Aside0.mk (blk_below (g := gb101) (o := .cells #[.slice A0_0 l0_0.length c0_0, .slice (some ad102) l0_1.length c0_1] 66 (0, 0)) (by repeat (first | (with_reducible first | exact BK101.out | refine blk_drewN ?_ _ | refine blk_drew ?_ | refine blk_alloc ?_ _) | refine blk_far ?_ NB101_103.out _ | exact BK101.out)) hb); have n1_ := Aside0.mk (blk_below (g := gb103) (o := .cells #[.string ((rd_T27 l0_1 x14_1).head.pred), .slice A102_1 ((rd_T27 l0_1 x14_1).head.args).length c102_1, .slice A102_2 ((rd_T27 l0_1 x14_1).body).length c102_2] 27 (0, 0)) (by (with_reducible repeat (first | refine blk_drewN ?_ _ | refine blk_drew ?_ | refine blk_alloc ?_ _)); refine blk_put (cs := #[.string ((rd_T27 l0_1 x14_1).head.pred), .slice A102_1 ((rd_T27 l0_1 x14_1).head.args).length c102_1, .slice none 0 0]) ?_ 2 _ rfl; (with_reducible repeat (first | refine blk_drewN ?_ _ | refine blk_drew ?_ | refine blk_alloc ?_ _)); refine blk_put (cs := #[.string ((rd_T27 l0_1 x14_1).head.pred), .slice none 0 0, .slice none 0 0]) ?_ 1 _ rfl; (with_reducible repeat (first | refine blk_drewN ?_ _ | refine blk_drew ?_ | refine blk_alloc ?_ _)); refine blk_put (cs := #[.string (⟨#[]⟩ : ByteArray), .slice none 0 0, .slice none 0 0]) ?_ 0 _ rfl; (with_reducible repeat (first | refine blk_drewN ?_ _ | refine blk_drew ?_ | refine blk_alloc ?_ _)); exact BK103.out) hb); have n2_ := Aside0.mk (below_step (by repeat (first | (with_reducible first | exact HB.out | apply below_alloc | apply pw_below_drewN | apply below_drew1 | refine below_set ?_ GE101.out | refine below_set ?_ GE103.out) | exact HB.out)) hb); clear BK101; clear BK103; clear HB; have BK101 := n0_; have BK103 := n1_; have HB := n2_; clear n0_ n1_ n2_; (try clear hb); (try clear hb2); (try clear hk); (try clear hi)))
       go_roundg k1
       case measure => have := HK1.out; omega
       case rel => exact ⟨(wrap64 (x14_1 + 1)), (by first | rfl | (simp; done) | (simp [*]; done)), H', ⟨by have := HK1.out; omega⟩, ⟨by (with_reducible repeat (first | refine blk_drewN ?_ _ | refine blk_drew ?_ | refine blk_alloc ?_ _)); exact BK101.out⟩, ⟨by repeat (first | (with_reducible first | exact HB.out | apply below_alloc | apply pw_below_drewN | apply below_drew1 | refine below_set ?_ GE101.out | refine below_set ?_ GE103.out) | exact HB.out)⟩⟩
      ·rw [if_neg c8] at H
       have c8b0 : (t106 == 0) = false := beq_eq_false_iff_ne.mpr c8
       have c8b1 : (t106 != 0) = true := bne_iff_ne.mpr c8
       simp only [Option.some.injEq, Prod.mk.injEq] at H
       obtain ⟨rfl, rfl, rfl, rfl⟩ := H
       have p102 : 0 ≤ (x14_1 : Int) := of_decide_eq_true (by first | (with_reducible assumption) | assumption)
       have q102 : x14_1 < (l0_1.length : Int) := of_decide_eq_true (by first | (with_reducible assumption) | assumption)
       obtain ⟨ad102, A102_1, c102_1, A102_2, c102_2, e102, hx102_0, hx102_1, hx102_2, hl102_1, hi102_1, hl102_2, hi102_2⟩ := at_T27 HR0_1.out x14_1 p102 q102
       cases e102
       replace hx102_0 := (HB.out.cell (blt_ hx102_0)).trans hx102_0
       replace hx102_1 := (HB.out.cell (blt_ hx102_1)).trans hx102_1
       replace hx102_2 := (HB.out.cell (blt_ hx102_2)).trans hx102_2
       have HR102_1 := Aside0.mk hi102_1
       have HC102_1 := Aside0.mk hl102_1
       clear hi102_1 hl102_1
       have HR102_2 := Aside0.mk hi102_2
       have HC102_2 := Aside0.mk hl102_2
       clear hi102_2 hl102_2
       replace p102 := eq_true p102
       replace q102 := eq_true q102
       go_wp2_with (first | ((with_reducible refine gate_dst (N := 7) rfl ?_); refine box_event ?hg (N := 7) ?hd (cs := #[.string (⟨#[]⟩ : ByteArray), .slice none 0 0, .slice none 0 0]) (t := 27) ?hr ?_; (case hd => rfl); (case hg => rfl); (case hr => first | (go_simp; done) | (go_simp; rfl)); intro gb103 hg w13 hbox hb; have n0_ := Aside0.mk (blk_below (g := gb101) (o := .cells #[.slice A0_0 l0_0.length c0_0, .slice (some ad102) l0_1.length c0_1] 66 (0, 0)) (by (with_reducible repeat (first | refine blk_drewN ?_ _ | refine blk_drew ?_ | refine blk_alloc ?_ _)); exact BK101.out) hb); have n1_ := Aside0.mk (below_step (by repeat (first | (with_reducible first | exact HB.out | apply below_alloc | apply pw_below_drewN | apply below_drew1 | refine below_set ?_ GE101.out) | exact HB.out)) hb); have n2_ := Aside0.mk (hbox); have n3_ := Aside0.mk ((by rw [hg]; exact (below_size (by repeat (first | (with_reducible first | exact HB.out | apply below_alloc | apply pw_below_drewN | apply below_drew1 | refine below_set ?_ GE101.out) | exact HB.out))) : w.heap.size ≤ gb103)); have n4_ := Aside0.mk ((by rw [hg]; exact (below_size (by repeat (first | (with_reducible first | exact HB.out | apply below_alloc | apply pw_below_drewN | apply below_drew1 | refine below_set ?_ GE101.out) | exact HB.out))) : w.heap.size ≤ gb103)); have n5_ := Aside0.mk ((by rw [hg]; exact Nat.ne_of_lt (blk_lt (g := gb101) (o := .cells #[.slice A0_0 l0_0.length c0_0, .slice (some ad102) l0_1.length c0_1] 66 (0, 0)) (by (with_reducible repeat (first | refine blk_drewN ?_ _ | refine blk_drew ?_ | refine blk_alloc ?_ _)); exact BK101.out)) : gb101 ≠ gb103)); have n6_ := Aside0.mk ((by rw [hg]; exact Nat.ne_of_gt (blk_lt (g := gb101) (o := .cells #[.slice A0_0 l0_0.length c0_0, .slice (some ad102) l0_1.length c0_1] 66 (0, 0)) (by (with_reducible repeat (first | refine blk_drewN ?_ _ | refine blk_drew ?_ | refine blk_alloc ?_ _)); exact BK101.out)) : gb103 ≠ gb101)); clear BK101; clear HB; have BK101 := n0_; have HB := n1_; have BK103 := n2_; have GW103 := n3_; have GE103 := n4_; have NB101_103 := n5_; have NB103_101 := n6_; clear n0_ n1_ n2_ n3_ n4_ n5_ n6_; clear hb hbox hg; have hnb14 := NB103_101.out; have hnc14 := NB101_103.out; have hcz15_0 : w13.cell? ⟨gb103, 0, none⟩ = some (.string (⟨#[]⟩ : ByteArray)) := (blk_cell BK103.out 0).trans rfl; have hcz15_1 : w13.cell? ⟨gb103, 1, none⟩ = some (.slice none 0 0) := (blk_cell BK103.out 1).trans rfl; have hcz15_2 : w13.cell? ⟨gb103, 2, none⟩ = some (.slice none 0 0) := (blk_cell BK103.out 2).trans rfl; have hfz15_0 := blk_frozen BK103.out 0; have hfz15_1 := blk_frozen BK103.out 1; have hfz15_2 := blk_frozen BK103.out 2) | ((with_reducible refine gate_callee (f := 28) rfl ?_); refine goesL_ (some 21) rfl rfl Try.func28 (by kernel_rfl) rfl #[.agg #[.string ((rd_T27 l0_1 x14_1).head.pred), .slice A102_1 ((rd_T27 l0_1 x14_1).head.args).length c102_1, .slice A102_2 ((rd_T27 l0_1 x14_1).body).length c102_2]] rfl (by (try simp only [List.map_toArray, List.map_cons, List.map_nil]); first | done | rfl | (simp only [List.length_drop, List.length_take]; rfl)) ?_; (with_reducible refine (safe_Check.calls k1 ((rd_T27 l0_1 x14_1).head.pred) _ _ ((rd_T27 l0_1 x14_1).head.args) _ _ ((rd_T27 l0_1 x14_1).body) t104 t105 t106 _ ?side1 ?side2 ?side3 ?side4 A7.out).mono ?_); (case side1 => exact Kd.C_below HR102_1.out (by repeat (first | (with_reducible first | exact HB.out | apply below_alloc | apply pw_below_drewN | apply below_drew1 | refine below_set ?_ GE101.out | refine below_set ?_ GE103.out) | exact HB.out))); (case side2 => exact HC102_1.out); (case side3 => exact Kd.C_below HR102_2.out (by repeat (first | (with_reducible first | exact HB.out | apply below_alloc | apply pw_below_drewN | apply below_drew1 | refine below_set ?_ GE101.out | refine below_set ?_ GE103.out) | exact HB.out))); (case side4 => exact HC102_2.out); rintro e w16 ⟨rfl, hb⟩; refine ⟨_, rfl, ?_⟩; have n0_ := Aside0.mk (blk_below (g := gb101) (o := .cells #[.slice A0_0 l0_0.length c0_0, .slice (some ad102) l0_1.length c0_1] 66 (0, 0)) (by repeat (first | (with_reducible first | exact BK101.out | refine blk_drewN ?_ _ | refine blk_drew ?_ | refine blk_alloc ?_ _) | refine blk_far ?_ NB101_103.out _ | exact BK101.out)) hb); have n1_ := Aside0.mk (blk_below (g := gb103) (o := .cells #[.string ((rd_T27 l0_1 x14_1).head.pred), .slice A102_1 ((rd_T27 l0_1 x14_1).head.args).length c102_1, .slice A102_2 ((rd_T27 l0_1 x14_1).body).length c102_2] 27 (0, 0)) (by (with_reducible repeat (first | refine blk_drewN ?_ _ | refine blk_drew ?_ | refine blk_alloc ?_ _)); refine blk_put (cs := #[.string ((rd_T27 l0_1 x14_1).head.pred), .slice A102_1 ((rd_T27 l0_1 x14_1).head.args).length c102_1, .slice none 0 0]) ?_ 2 _ rfl; (with_reducible repeat (first | refine blk_drewN ?_ _ | refine blk_drew ?_ | refine blk_alloc ?_ _)); refine blk_put (cs := #[.string ((rd_T27 l0_1 x14_1).head.pred), .slice none 0 0, .slice none 0 0]) ?_ 1 _ rfl; (with_reducible repeat (first | refine blk_drewN ?_ _ | refine blk_drew ?_ | refine blk_alloc ?_ _)); refine blk_put (cs := #[.string (⟨#[]⟩ : ByteArray), .slice none 0 0, .slice none 0 0]) ?_ 0 _ rfl; (with_reducible repeat (first | refine blk_drewN ?_ _ | refine blk_drew ?_ | refine blk_alloc ?_ _)); exact BK103.out) hb); have n2_ := Aside0.mk (below_step (by repeat (first | (with_reducible first | exact HB.out | apply below_alloc | apply pw_below_drewN | apply below_drew1 | refine below_set ?_ GE101.out | refine below_set ?_ GE103.out) | exact HB.out)) hb); clear BK101; clear BK103; clear HB; have BK101 := n0_; have BK103 := n1_; have HB := n2_; clear n0_ n1_ n2_; (try clear hb); (try clear hb2); (try clear hk); (try clear hi)))
       refine bodyPost_ret (results_list (rs := [.tmp 2, .tmp 3, .tmp 4, .tmp 5]) rfl (by simp) (.tmp (.tmp (.tmp (.tmp .nil))))) rfl ?_
       exact ⟨by first | rfl | (simp [errW_none, errW_some] <;> rfl) | (simp [*, errW_none, errW_some] <;> rfl), by repeat (first | (with_reducible first | exact HB.out | apply below_alloc | apply pw_below_drewN | apply below_drew1 | refine below_set ?_ GE101.out | refine below_set ?_ GE103.out) | exact HB.out)⟩
     ·rw [if_neg c6] at H
      exact absurd H (by simp)
    ·rw [if_neg c5] at H
     exact absurd H (by simp)
   ·rw [if_neg c4] at H
    have c4b0 : decide (x14_1 < (l0_1.length : Int)) = false := decide_eq_false c4
    clear c4
    simp only [Option.some.injEq, Prod.mk.injEq] at H
    obtain ⟨rfl, rfl, rfl, rfl⟩ := H
    go_wp2
    refine bodyPost_ret (results_list (rs := [.tmp 2, .tmp 3, .tmp 4, .tmp 5]) rfl (by simp) (.tmp (.tmp (.tmp (.tmp .nil))))) rfl ?_
    exact ⟨by first | rfl | (simp [errW_none, errW_some] <;> rfl) | (simp [*, errW_none, errW_some] <;> rfl), by repeat (first | (with_reducible first | exact HB.out | apply below_alloc | apply pw_below_drewN | apply below_drew1 | refine below_set ?_ GE101.out) | exact HB.out)⟩
end Go.Proofs.Ythpejcnldecmoaa.H
namespace Go.Proofs.Ythpejcnldecmoaa.H
open Go.RowKit Go.Proofs.YthpejcnldecmoaaW.PrintWords
set_option linter.unusedVariables false
def varOf (s : ByteArray) : Term := ⟨true, s, ⟨false, ⟨#[]⟩, 0⟩⟩
def noTerm : Term := ⟨false, ⟨#[]⟩, ⟨false, ⟨#[]⟩, 0⟩⟩
theorem blk_new' {w : World} {n : Nat} (h : w.heap.size = n) (o : Obj) : (w.alloc o).heap[n]? = some o := by subst h; exact blk_new w o
end Go.Proofs.Ythpejcnldecmoaa.H
namespace Go.Proofs.Ythpejcnldecmoaa.H
open Go.RowKit Go.Proofs.YthpejcnldecmoaaW.PrintWords Go.Proofs.YthpejcnldecmoaaW.PrintLast Go.Proofs.YthpejcnldecmoaaW.PrintMore
set_option linter.unusedVariables false
theorem law09_v (s : ByteArray) (w : World) :
    Calls Try.prog 33 #[.string s] w fun e w' => e = .returned (.agg #[.bool true, .string s, .bool false, .string ⟨#[]⟩, .int .i64 0]) ∧ w' = w.alloc (.cells #[.bool true, .string s, .bool false, .string ⟨#[]⟩, .int .i64 0] 45) := by
  have hu := Try.underlying45
  go_enter Try.func33, Try.ntmps33
  go_wp2
  refine bodyPost_ret (results_cell_row rfl _ _ w.heap.size 45 #[.bool true, .string s, .bool false, .string ⟨#[]⟩, .int .i64 0] (0, 0) _ rfl (heap_alloc_new _ _) Try.underlying45 rfl (by kernel_rfl)) rfl ?_
  exact ⟨rfl, rfl⟩
def shL9 : Liter := ⟨1, ⟨⟨#[113]⟩, [varOf ⟨#[89]⟩]⟩, ⟨#[]⟩, noTerm, noTerm⟩
theorem srtS1 (a : ByteArray) : compactS (sortS [a]) = [a] := by
  simp [compactS, sortS, Go.Lib.compact, Go.Lib.compactUpTo, Go.Lib.keeps, List.filter, List.range_succ, ofL_toL]
theorem sh9_bound : boundS [shL9] = [⟨#[89]⟩] := by
  unfold boundS setS
  rw [show boundL [shL9] = [⟨#[89]⟩] by decide +kernel, srtS1]
theorem sh9_one : chkS [varOf ⟨#[88]⟩] [shL9] = (⟨#[88]⟩, -1, 6) := by
  unfold chkS; rw [sh9_bound]; decide +kernel
theorem sh9_two : chkS [varOf ⟨#[89]⟩] [shL9] = (⟨#[]⟩, 0, 0) := by
  unfold chkS; rw [sh9_bound]; decide +kernel
theorem sh9_call (W : World) (p : ByteArray) (s : ByteArray) (bh b bq : Nat) (r : ByteArray × Int × Int) (hr : chkS [varOf s] [shL9] = r) (hh : W.heap[bh]? = some (.cells #[.bool true, .string s, .bool false, .string ⟨#[]⟩, .int .i64 0] 45 (0, 0)))
    (hq : W.heap[bq]? = some (.cells #[.bool true, .string ⟨#[89]⟩, .bool false, .string ⟨#[]⟩, .int .i64 0] 45 (0, 0)))
    (hb : W.heap[b]? = some (.cells #[.int .i64 1, .string ⟨#[113]⟩, .slice (some ⟨bq, 0, none⟩) 1 1, .string ⟨#[]⟩, .bool false, .string ⟨#[]⟩, .bool false, .string ⟨#[]⟩, .int .i64 0, .bool false, .string ⟨#[]⟩, .bool false, .string ⟨#[]⟩, .int .i64 0] 47 (0, 0))) :
    Calls Try.prog 28 #[.agg #[.string p, .slice (some ⟨bh, 0, none⟩) 1 1, .slice (some ⟨b, 0, none⟩) 1 1]] W fun e w' => e = .returned (.tuple #[.string r.1, .int .i64 r.2.1, .int .i64 r.2.2]) ∧ Below W.heap.size W w' := by
  have gh : Kd.C k45 W (some ⟨bh, 0, none⟩) 1 [varOf s] := C_cells hh (Reps.snoc (Reps.none _ _) (k45_mk W (varOf s)) rfl) (by simp)
  have gq : Kd.C k45 W (some ⟨bq, 0, none⟩) 1 [varOf ⟨#[89]⟩] := C_cells hq (Reps.snoc (Reps.none _ _) (k45_mk W (varOf ⟨#[89]⟩)) rfl) (by simp)
  have gb : Kd.C k47 W (some ⟨b, 0, none⟩) 1 [shL9] := C_cells hb (Reps.snoc (Reps.none _ _) (k47_mk W shL9 (Nat.le_refl 1) gq) rfl) (by simp)
  obtain ⟨k, hk⟩ := Ev.rounds (g := fun k => safe_Check.f k p [varOf s] [shL9]) (Check_ev p [varOf s] [shL9] (by simp) (by simp) (by simp [shL9]))
  rw [hr] at hk
  exact safe_Check.calls k p (some ⟨bh, 0, none⟩) 1 [varOf s] (some ⟨b, 0, none⟩) 1 [shL9] r.1 r.2.1 r.2.2 W gh (Nat.le_refl 1) gb (Nat.le_refl 1) hk
theorem sh9_first (w W : World) (bh b bq ba : Nat) (hB : Below w.heap.size w W) (hh : W.heap[bh]? = some (.cells #[.bool true, .string ⟨#[88]⟩, .bool false, .string ⟨#[]⟩, .int .i64 0] 45 (0, 0)))
    (hq : W.heap[bq]? = some (.cells #[.bool true, .string ⟨#[89]⟩, .bool false, .string ⟨#[]⟩, .int .i64 0] 45 (0, 0)))
    (ha : W.heap[ba]? = some (.cells #[.string ⟨#[113]⟩, .slice (some ⟨bq, 0, none⟩) 1 1] 24 (0, 0)))
    (hb : W.heap[b]? = some (.cells #[.int .i64 1, .string ⟨#[113]⟩, .slice (some ⟨bq, 0, none⟩) 1 1, .string ⟨#[]⟩, .bool false, .string ⟨#[]⟩, .bool false, .string ⟨#[]⟩, .int .i64 0, .bool false, .string ⟨#[]⟩, .bool false, .string ⟨#[]⟩, .int .i64 0] 47 (0, 0))) :
    Calls Try.prog 28 #[.agg #[.string ⟨#[112]⟩, .slice (some ⟨bh, 0, none⟩) 1 1, .slice (some ⟨b, 0, none⟩) 1 1]] W fun e w' => e = .returned (.tuple #[.string ⟨#[88]⟩, .int .i64 (-1), .int .i64 6]) ∧ Aside0 (Below w.heap.size w w') ∧ Aside0 (w'.heap[bq]? = some (.cells #[.bool true, .string ⟨#[89]⟩, .bool false, .string ⟨#[]⟩, .int .i64 0] 45 (0, 0))) ∧ w'.cell? ⟨ba, 0, none⟩ = some (.string ⟨#[113]⟩) ∧ w'.cell? ⟨ba, 1, none⟩ = some (.slice (some ⟨bq, 0, none⟩) 1 1) := by
  refine (sh9_call W ⟨#[112]⟩ ⟨#[88]⟩ bh b bq _ sh9_one hh hq hb).mono ?_
  rintro e w1 ⟨rfl, h⟩
  have HA := blk_below ha h
  exact ⟨rfl, ⟨Below.then hB h⟩, ⟨blk_below hq h⟩, (blk_cell HA 0).trans rfl, (blk_cell HA 1).trans rfl⟩
theorem sh9_second (w W : World) (b bq : Nat) (hB : Below w.heap.size w W) (hq : W.heap[bq]? = some (.cells #[.bool true, .string ⟨#[89]⟩, .bool false, .string ⟨#[]⟩, .int .i64 0] 45 (0, 0)))
    (hb : W.heap[b]? = some (.cells #[.int .i64 1, .string ⟨#[113]⟩, .slice (some ⟨bq, 0, none⟩) 1 1, .string ⟨#[]⟩, .bool false, .string ⟨#[]⟩, .bool false, .string ⟨#[]⟩, .int .i64 0, .bool false, .string ⟨#[]⟩, .bool false, .string ⟨#[]⟩, .int .i64 0] 47 (0, 0))) :
    Calls Try.prog 28 #[.agg #[.string ⟨#[113]⟩, .slice (some ⟨bq, 0, none⟩) 1 1, .slice (some ⟨b, 0, none⟩) 1 1]] W fun e w' => e = .returned (.tuple #[.string ⟨#[]⟩, .int .i64 0, .int .i64 0]) ∧ Aside0 (Below w.heap.size w w') := by
  refine (sh9_call W ⟨#[113]⟩ ⟨#[89]⟩ bq b bq _ sh9_two hq hq hb).mono ?_
  rintro e w1 ⟨rfl, h⟩
  exact ⟨rfl, ⟨Below.then hB h⟩⟩
set_option maxHeartbeats 4000000 in
set_option maxRecDepth 100000 in
theorem law09_shown (w : World) :
    Calls Try.prog 25 #[] w fun e w' => e = .returned (.bool true) ∧ Below w.heap.size w w' := by
  have hu := Try.underlying45
  have hu2 := Try.underlying24
  have hu3 := Try.underlying47
  have hu4 := Try.underlying27
  go_enter Try.func25, Try.ntmps25
  go_wp2_with (first
    | (go_at_call 33; go_must (refine (law09_v _ _).mono ?_); rintro e w' ⟨rfl, rfl⟩))
  refine (sh9_first w _ (w.heap.size + 1) (w.heap.size + 1 + 1 + 1 + 1 + 1 + 1) (w.heap.size + 1 + 1 + 1 + 1) (w.heap.size + 1 + 1 + 1 + 1 + 1) (by repeat (first | (with_reducible exact Below.refl _ _) | refine below_alloc ?_ _)) (by repeat (first | (refine blk_new' ?_ _; simp; done) | refine blk_alloc ?_ _)) (by repeat (first | (refine blk_new' ?_ _; simp; done) | refine blk_alloc ?_ _)) (by repeat (first | (refine blk_new' ?_ _; simp; done) | refine blk_alloc ?_ _)) (blk_new' (by simp) _)).mono ?_
  rintro e w1 ⟨rfl, HB, HQ, hc0, hc1⟩
  go_wp2_with (go_at_call 28; go_must (refine (sh9_second w _ w1.heap.size (w.heap.size + 1 + 1 + 1 + 1) (below_alloc HB.out _) (blk_alloc HQ.out _) (blk_new' rfl _)).mono ?_); rintro e w2 ⟨rfl, HB2⟩)
  go_ret
  exact ⟨rfl, HB2.out⟩
def lambrequinlaw09_shown.f : Option Bool := some true
theorem lambrequinlaw09_shown.calls (r : Bool) (w : World) (h : lambrequinlaw09_shown.f = some r) :
    Calls Try.prog 25 #[] w fun e w' => e = .returned (.bool r) ∧ Below w.heap.size w w' := by
  cases h
  exact law09_shown w
end Go.Proofs.Ythpejcnldecmoaa.H
namespace Go.Proofs.Ythpejcnldecmoaa.H
open Go.RowKit Go.Proofs.YthpejcnldecmoaaW.PrintWords Go.Proofs.YthpejcnldecmoaaW.PrintLast Go.Proofs.YthpejcnldecmoaaW.PrintMore
attribute [local go_sem] max2_int min2_int max_two min_two max_three min_three max_four min_four
set_option linter.unusedVariables false
set_option linter.unusedSimpArgs false
mutual
def lambrequinlaw09_SafeTells.j0 : Nat → Bool → ByteArray → List (Term) → List (Liter) → List (Decl) → List (Rule) → Option (Bool)
 | 0, _, _, _, _, _, _ => none
 | k + 1, x5, x102000, x102001, x102002, x103000, x103001 => if (x103001.length : Int) > 50 then (lambrequinlaw09_SafeTells.j1 k x5 true x102000 x102001 x102002 x103000 x103001) else ((lambrequinlaw09_few.f k x102000 x102001 x102002).bind fun t104 => (lambrequinlaw09_SafeTells.j1 k x5 (!t104) x102000 x102001 x102002 x103000 x103001))
def lambrequinlaw09_SafeTells.j1 : Nat → Bool → Bool → ByteArray → List (Term) → List (Liter) → List (Decl) → List (Rule) → Option (Bool)
 | 0, _, _, _, _, _, _, _ => none
 | k + 1, x5, x30, x102000, x102001, x102002, x103000, x103001 => if x30 = true then (some x5) else (lambrequinlaw09_SafeTells.l0 k x5 0 x102000 x102001 x102002 x103000 x103001)
def lambrequinlaw09_SafeTells.l0 : Nat → Bool → Int → ByteArray → List (Term) → List (Liter) → List (Decl) → List (Rule) → Option (Bool)
 | 0, _, _, _, _, _, _, _ => none
 | k + 1, x5, x6, x102000, x102001, x102002, x103000, x103001 => if x6 < (x103001.length : Int) then (if 0 ≤ x6 then ((lambrequinlaw09_few.f k ((rd_T27 x103001 x6).head.pred) ((rd_T27 x103001 x6).head.args) ((rd_T27 x103001 x6).body)).bind fun t106 => (if t106 = true then (lambrequinlaw09_SafeTells.l0 k x5 (wrap64 (x6 + 1)) x102000 x102001 x102002 x103000 x103001) else (some x5))) else (none)) else ((safe_Check.f k x102000 x102001 x102002).bind fun bt107 => ((lambrequinref09_Check.f k x102000 x102001 x102002).bind fun bt110 => ((safe_All.f k x103000 x103001).bind fun bt113 => ((lambrequinref09_All.f k x103000 x103001).bind fun bt117 => (lambrequinlaw09_SafeTells.j3 k x5 bt107.1 bt107.2.1 bt107.2.2 bt110.1 bt110.2.1 bt110.2.2 bt113.1 bt113.2.1 bt113.2.2.1 bt113.2.2.2 bt117.1 bt117.2.1 bt117.2.2.1 bt117.2.2.2 x102000 x102001 x102002)))))
def lambrequinlaw09_SafeTells.j3 : Nat → Bool → ByteArray → Int → Int → ByteArray → Int → Int → Int → ByteArray → Int → Int → Int → ByteArray → Int → Int → ByteArray → List (Term) → List (Liter) → Option (Bool)
 | 0, _, _, _, _, _, _, _, _, _, _, _, _, _, _, _, _, _, _ => none
 | k + 1, x5, x7, x8, x9, x10, x11, x12, x13, x14, x15, x16, x17, x18, x19, x20, x102000, x102001, x102002 => if x5 = true then (if x7.toList = x10.toList then (if x8 = x11 then (if x9 = x12 then (if x13 = x17 then (if x14.toList = x18.toList then (if x15 = x19 then (if x16 = x20 then ((safe_Vars.f k x102000 x102001).bind fun t121 => ((lambrequinref09_Vars.f k x102000 x102001).bind fun t124 => ((lambrequinref09_Same.f k t121 t124).bind fun t127 => (if t127 = true then ((safe_Bound.f k x102000 x102001 x102002).bind fun t128 => ((lambrequinref09_Bound.f k x102000 x102001 x102002).bind fun t131 => ((lambrequinref09_Same.f k t128 t131).bind fun t134 => (some t134)))) else (some false))))) else (some false)) else (some false)) else (some false)) else (some false)) else (some false)) else (some false)) else (some false)) else (some false)
end
def lambrequinlaw09_SafeTells.f (k : Nat) (a0_0 : ByteArray) (l0_1 : List (Term)) (l0_2 : List (Liter)) (l1_0 : List (Decl)) (l1_1 : List (Rule)) : Option (Bool) := (lambrequinlaw09_shown.f).bind fun t103 => (lambrequinlaw09_SafeTells.j0 k t103 a0_0 l0_1 l0_2 l1_0 l1_1)
theorem lambrequinlaw09_SafeTells.mono_l : ∀ k, (∀ y0 y1 y2 y3 y4 y5, LeO (lambrequinlaw09_SafeTells.j0 k y0 y1 y2 y3 y4 y5) (lambrequinlaw09_SafeTells.j0 (k + 1) y0 y1 y2 y3 y4 y5)) ∧ (∀ y0 y1 y2 y3 y4 y5 y6, LeO (lambrequinlaw09_SafeTells.j1 k y0 y1 y2 y3 y4 y5 y6) (lambrequinlaw09_SafeTells.j1 (k + 1) y0 y1 y2 y3 y4 y5 y6)) ∧ (∀ y0 y1 y2 y3 y4 y5 y6, LeO (lambrequinlaw09_SafeTells.l0 k y0 y1 y2 y3 y4 y5 y6) (lambrequinlaw09_SafeTells.l0 (k + 1) y0 y1 y2 y3 y4 y5 y6)) ∧ (∀ y0 y1 y2 y3 y4 y5 y6 y7 y8 y9 y10 y11 y12 y13 y14 y15 y16 y17, LeO (lambrequinlaw09_SafeTells.j3 k y0 y1 y2 y3 y4 y5 y6 y7 y8 y9 y10 y11 y12 y13 y14 y15 y16 y17) (lambrequinlaw09_SafeTells.j3 (k + 1) y0 y1 y2 y3 y4 y5 y6 y7 y8 y9 y10 y11 y12 y13 y14 y15 y16 y17))
 | 0 => ⟨fun _ _ _ _ _ _ r h => by simp [lambrequinlaw09_SafeTells.j0] at h, fun _ _ _ _ _ _ _ r h => by simp [lambrequinlaw09_SafeTells.j1] at h, fun _ _ _ _ _ _ _ r h => by simp [lambrequinlaw09_SafeTells.l0] at h, fun _ _ _ _ _ _ _ _ _ _ _ _ _ _ _ _ _ _ r h => by simp [lambrequinlaw09_SafeTells.j3] at h⟩
 | k + 1 => by
  obtain ⟨ih0, ih1, ih2, ih3⟩ := lambrequinlaw09_SafeTells.mono_l k
  refine ⟨?_, ?_, ?_, ?_⟩
  ·intro y0 y1 y2 y3 y4 y5
   unfold lambrequinlaw09_SafeTells.j0
   repeat' first
   | (with_reducible exact ih0 _ _ _ _ _ _)
   | (with_reducible exact ih1 _ _ _ _ _ _ _)
   | (with_reducible exact ih2 _ _ _ _ _ _ _)
   | (with_reducible exact ih3 _ _ _ _ _ _ _ _ _ _ _ _ _ _ _ _ _ _)
   | (with_reducible exact lambrequinlaw09_few.mono _ _ _ _)
   | (with_reducible exact lambrequinref09_All.mono _ _ _)
   | (with_reducible exact lambrequinref09_Bound.mono _ _ _ _)
   | (with_reducible exact lambrequinref09_Check.mono _ _ _ _)
   | (with_reducible exact lambrequinref09_Same.mono _ _ _)
   | (with_reducible exact lambrequinref09_Vars.mono _ _ _)
   | (with_reducible exact safe_All.mono _ _ _)
   | (with_reducible exact safe_Bound.mono _ _ _ _)
   | (with_reducible exact safe_Check.mono _ _ _ _)
   | (with_reducible exact safe_Vars.mono _ _ _)
   | (with_reducible exact LeO.refl _)
   | (with_reducible exact LeO.none _)
   | (with_reducible refine LeO.ite ?_ ?_)
   | (with_reducible refine LeO.bind ?_ (fun _ => ?_))
   | exact ih0 _ _ _ _ _ _
   | exact ih1 _ _ _ _ _ _ _
   | exact ih2 _ _ _ _ _ _ _
   | exact ih3 _ _ _ _ _ _ _ _ _ _ _ _ _ _ _ _ _ _
   | exact lambrequinlaw09_few.mono _ _ _ _
   | exact lambrequinref09_All.mono _ _ _
   | exact lambrequinref09_Bound.mono _ _ _ _
   | exact lambrequinref09_Check.mono _ _ _ _
   | exact lambrequinref09_Same.mono _ _ _
   | exact lambrequinref09_Vars.mono _ _ _
   | exact safe_All.mono _ _ _
   | exact safe_Bound.mono _ _ _ _
   | exact safe_Check.mono _ _ _ _
   | exact safe_Vars.mono _ _ _
   | exact LeO.none _
   | refine LeO.ite ?_ ?_
   | refine LeO.bind ?_ (fun _ => ?_)
  ·intro y0 y1 y2 y3 y4 y5 y6
   unfold lambrequinlaw09_SafeTells.j1
   repeat' first
   | (with_reducible exact ih0 _ _ _ _ _ _)
   | (with_reducible exact ih1 _ _ _ _ _ _ _)
   | (with_reducible exact ih2 _ _ _ _ _ _ _)
   | (with_reducible exact ih3 _ _ _ _ _ _ _ _ _ _ _ _ _ _ _ _ _ _)
   | (with_reducible exact lambrequinlaw09_few.mono _ _ _ _)
   | (with_reducible exact lambrequinref09_All.mono _ _ _)
   | (with_reducible exact lambrequinref09_Bound.mono _ _ _ _)
   | (with_reducible exact lambrequinref09_Check.mono _ _ _ _)
   | (with_reducible exact lambrequinref09_Same.mono _ _ _)
   | (with_reducible exact lambrequinref09_Vars.mono _ _ _)
   | (with_reducible exact safe_All.mono _ _ _)
   | (with_reducible exact safe_Bound.mono _ _ _ _)
   | (with_reducible exact safe_Check.mono _ _ _ _)
   | (with_reducible exact safe_Vars.mono _ _ _)
   | (with_reducible exact LeO.refl _)
   | (with_reducible exact LeO.none _)
   | (with_reducible refine LeO.ite ?_ ?_)
   | (with_reducible refine LeO.bind ?_ (fun _ => ?_))
   | exact ih0 _ _ _ _ _ _
   | exact ih1 _ _ _ _ _ _ _
   | exact ih2 _ _ _ _ _ _ _
   | exact ih3 _ _ _ _ _ _ _ _ _ _ _ _ _ _ _ _ _ _
   | exact lambrequinlaw09_few.mono _ _ _ _
   | exact lambrequinref09_All.mono _ _ _
   | exact lambrequinref09_Bound.mono _ _ _ _
   | exact lambrequinref09_Check.mono _ _ _ _
   | exact lambrequinref09_Same.mono _ _ _
   | exact lambrequinref09_Vars.mono _ _ _
   | exact safe_All.mono _ _ _
   | exact safe_Bound.mono _ _ _ _
   | exact safe_Check.mono _ _ _ _
   | exact safe_Vars.mono _ _ _
   | exact LeO.none _
   | refine LeO.ite ?_ ?_
   | refine LeO.bind ?_ (fun _ => ?_)
  ·intro y0 y1 y2 y3 y4 y5 y6
   unfold lambrequinlaw09_SafeTells.l0
   repeat' first
   | (with_reducible exact ih0 _ _ _ _ _ _)
   | (with_reducible exact ih1 _ _ _ _ _ _ _)
   | (with_reducible exact ih2 _ _ _ _ _ _ _)
   | (with_reducible exact ih3 _ _ _ _ _ _ _ _ _ _ _ _ _ _ _ _ _ _)
   | (with_reducible exact lambrequinlaw09_few.mono _ _ _ _)
   | (with_reducible exact lambrequinref09_All.mono _ _ _)
   | (with_reducible exact lambrequinref09_Bound.mono _ _ _ _)
   | (with_reducible exact lambrequinref09_Check.mono _ _ _ _)
   | (with_reducible exact lambrequinref09_Same.mono _ _ _)
   | (with_reducible exact lambrequinref09_Vars.mono _ _ _)
   | (with_reducible exact safe_All.mono _ _ _)
   | (with_reducible exact safe_Bound.mono _ _ _ _)
   | (with_reducible exact safe_Check.mono _ _ _ _)
   | (with_reducible exact safe_Vars.mono _ _ _)
   | (with_reducible exact LeO.refl _)
   | (with_reducible exact LeO.none _)
   | (with_reducible refine LeO.ite ?_ ?_)
   | (with_reducible refine LeO.bind ?_ (fun _ => ?_))
   | exact ih0 _ _ _ _ _ _
   | exact ih1 _ _ _ _ _ _ _
   | exact ih2 _ _ _ _ _ _ _
   | exact ih3 _ _ _ _ _ _ _ _ _ _ _ _ _ _ _ _ _ _
   | exact lambrequinlaw09_few.mono _ _ _ _
   | exact lambrequinref09_All.mono _ _ _
   | exact lambrequinref09_Bound.mono _ _ _ _
   | exact lambrequinref09_Check.mono _ _ _ _
   | exact lambrequinref09_Same.mono _ _ _
   | exact lambrequinref09_Vars.mono _ _ _
   | exact safe_All.mono _ _ _
   | exact safe_Bound.mono _ _ _ _
   | exact safe_Check.mono _ _ _ _
   | exact safe_Vars.mono _ _ _
   | exact LeO.none _
   | refine LeO.ite ?_ ?_
   | refine LeO.bind ?_ (fun _ => ?_)
  ·intro y0 y1 y2 y3 y4 y5 y6 y7 y8 y9 y10 y11 y12 y13 y14 y15 y16 y17
   unfold lambrequinlaw09_SafeTells.j3
   repeat' first
   | (with_reducible exact ih0 _ _ _ _ _ _)
   | (with_reducible exact ih1 _ _ _ _ _ _ _)
   | (with_reducible exact ih2 _ _ _ _ _ _ _)
   | (with_reducible exact ih3 _ _ _ _ _ _ _ _ _ _ _ _ _ _ _ _ _ _)
   | (with_reducible exact lambrequinlaw09_few.mono _ _ _ _)
   | (with_reducible exact lambrequinref09_All.mono _ _ _)
   | (with_reducible exact lambrequinref09_Bound.mono _ _ _ _)
   | (with_reducible exact lambrequinref09_Check.mono _ _ _ _)
   | (with_reducible exact lambrequinref09_Same.mono _ _ _)
   | (with_reducible exact lambrequinref09_Vars.mono _ _ _)
   | (with_reducible exact safe_All.mono _ _ _)
   | (with_reducible exact safe_Bound.mono _ _ _ _)
   | (with_reducible exact safe_Check.mono _ _ _ _)
   | (with_reducible exact safe_Vars.mono _ _ _)
   | (with_reducible exact LeO.refl _)
   | (with_reducible exact LeO.none _)
   | (with_reducible refine LeO.ite ?_ ?_)
   | (with_reducible refine LeO.bind ?_ (fun _ => ?_))
   | exact ih0 _ _ _ _ _ _
   | exact ih1 _ _ _ _ _ _ _
   | exact ih2 _ _ _ _ _ _ _
   | exact ih3 _ _ _ _ _ _ _ _ _ _ _ _ _ _ _ _ _ _
   | exact lambrequinlaw09_few.mono _ _ _ _
   | exact lambrequinref09_All.mono _ _ _
   | exact lambrequinref09_Bound.mono _ _ _ _
   | exact lambrequinref09_Check.mono _ _ _ _
   | exact lambrequinref09_Same.mono _ _ _
   | exact lambrequinref09_Vars.mono _ _ _
   | exact safe_All.mono _ _ _
   | exact safe_Bound.mono _ _ _ _
   | exact safe_Check.mono _ _ _ _
   | exact safe_Vars.mono _ _ _
   | exact LeO.none _
   | refine LeO.ite ?_ ?_
   | refine LeO.bind ?_ (fun _ => ?_)
theorem lambrequinlaw09_SafeTells.mono : ∀ a0 a1 a2 a3 a4 k, LeO (lambrequinlaw09_SafeTells.f k a0 a1 a2 a3 a4) (lambrequinlaw09_SafeTells.f (k + 1) a0 a1 a2 a3 a4) := by
 intro a0 a1 a2 a3 a4 k
 obtain ⟨ih0, ih1, ih2, ih3⟩ := lambrequinlaw09_SafeTells.mono_l k
 unfold lambrequinlaw09_SafeTells.f
 repeat' first
   | (with_reducible exact ih0 _ _ _ _ _ _)
   | (with_reducible exact ih1 _ _ _ _ _ _ _)
   | (with_reducible exact ih2 _ _ _ _ _ _ _)
   | (with_reducible exact ih3 _ _ _ _ _ _ _ _ _ _ _ _ _ _ _ _ _ _)
   | (with_reducible exact lambrequinlaw09_few.mono _ _ _ _)
   | (with_reducible exact lambrequinref09_All.mono _ _ _)
   | (with_reducible exact lambrequinref09_Bound.mono _ _ _ _)
   | (with_reducible exact lambrequinref09_Check.mono _ _ _ _)
   | (with_reducible exact lambrequinref09_Same.mono _ _ _)
   | (with_reducible exact lambrequinref09_Vars.mono _ _ _)
   | (with_reducible exact safe_All.mono _ _ _)
   | (with_reducible exact safe_Bound.mono _ _ _ _)
   | (with_reducible exact safe_Check.mono _ _ _ _)
   | (with_reducible exact safe_Vars.mono _ _ _)
   | (with_reducible exact LeO.refl _)
   | (with_reducible exact LeO.none _)
   | (with_reducible refine LeO.ite ?_ ?_)
   | (with_reducible refine LeO.bind ?_ (fun _ => ?_))
   | exact ih0 _ _ _ _ _ _
   | exact ih1 _ _ _ _ _ _ _
   | exact ih2 _ _ _ _ _ _ _
   | exact ih3 _ _ _ _ _ _ _ _ _ _ _ _ _ _ _ _ _ _
   | exact lambrequinlaw09_few.mono _ _ _ _
   | exact lambrequinref09_All.mono _ _ _
   | exact lambrequinref09_Bound.mono _ _ _ _
   | exact lambrequinref09_Check.mono _ _ _ _
   | exact lambrequinref09_Same.mono _ _ _
   | exact lambrequinref09_Vars.mono _ _ _
   | exact safe_All.mono _ _ _
   | exact safe_Bound.mono _ _ _ _
   | exact safe_Check.mono _ _ _ _
   | exact safe_Vars.mono _ _ _
   | exact LeO.none _
   | refine LeO.ite ?_ ?_
   | refine LeO.bind ?_ (fun _ => ?_)
def lambrequinlaw09_SafeTells.T13 : Bool × List (List Nat × List Nat) := (true, [([], []), ([0], [0]), ([1], [1]), ([1], [1]), ([2, 3, 1], [1, 2, 3]), ([1, 4], [1, 4]), ([5, 1], [5]), ([6], [6]), ([6], [6]), ([7, 8, 6], [6, 7, 8]), ([6, 9], [6, 9]), ([10, 6], [10]), ([11], [11]), ([11], [11]), ([12, 13, 11], [11, 12, 13]), ([11, 14], [11, 14]), ([15, 11], [15]), ([16], [16]), ([16], [16]), ([17, 18, 16], [16, 17, 18]), ([16, 19], [16, 19]), ([20, 16], [20]), ([21], [21]), ([21], [21]), ([22, 23, 21], [21, 22, 23]), ([21, 24], [21, 24]), ([25, 21], [25]), ([26], [26]), ([26], [26]), ([27, 28, 26], [26, 27, 28]), ([26, 29], [26, 29]), ([30, 26], [30]), ([31], [31]), ([31], [31]), ([32, 33, 31], [31, 32, 33]), ([31, 34], [31, 34]), ([35, 31], [35]), ([36], [36]), ([37, 36], [36, 37]), ([38, 36, 36], [36, 38]), ([36], [36]), ([40, 36], [36, 40]), ([41, 39, 36], [36, 41]), ([39, 42, 42, 36], [36, 39, 42]), ([36, 43], [36, 43]), ([44, 43], [44]), ([45], [45]), ([46, 45, 45], [45, 46]), ([45], [45]), ([48, 47, 45], [45, 48]), ([47, 49, 49, 45], [45, 47, 49]), ([45, 50], [45, 50]), ([51, 50, 0, 1, 2, 3, 4, 5, 6, 7, 8, 9, 10, 11, 12, 13, 14, 15, 16, 17, 18, 19, 20, 21, 22, 23, 24, 25, 26, 27, 28, 29, 30, 31, 32, 33, 34, 35, 36, 37, 38, 39, 40, 41, 42, 43, 44, 45, 46, 47, 48, 49, 50, 51], [51])])
def lambrequinlaw09_SafeTells.B13 : List Nat := [0, 1, 3, 3, 15, 31, 63, 127, 127, 511, 1023, 2047, 4095, 4095, 16383, 32767, 65535, 131071, 131071, 524287, 1048575, 2097151, 4194303, 4194303, 16777215, 33554431, 67108863, 134217727, 134217727, 536870911, 1073741823, 2147483647, 4294967295, 4294967295, 17179869183, 34359738367, 68719476735, 137438953471, 274877906943, 549755813887, 137438953471, 1236950581247, 4398046511103, 8796093022207, 17592186044415, 35184372088831, 70368744177663, 140737488355327, 70368744177663, 562949953421311, 1125899906842623, 2251799813685247, 4503599627370495]
theorem lambrequinlaw09_SafeTells.tab13 : rtab .any (opsOf Try.f13 13) = lambrequinlaw09_SafeTells.T13 := by kernel_rfl
theorem lambrequinlaw09_SafeTells.bits13 : waitsOk lambrequinlaw09_SafeTells.T13.2 lambrequinlaw09_SafeTells.B13 = true := by kernel_rfl
end Go.Proofs.Ythpejcnldecmoaa.H

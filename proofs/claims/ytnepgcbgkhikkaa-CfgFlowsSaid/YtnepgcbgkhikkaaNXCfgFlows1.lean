/- RowCfgFlows of the seat's law CfgFlows: the law holds, under the statement's own conditions. -/
import Derived.Test.YtnepgcbgkhikkaaNXCfgFlows
import Derived.Deep.RegionHeld3
import Derived.BigQuiet
import Derived.Deep.QuietTactic
import Derived.Test.YtnepgcbgkhikkaaNW
set_option linter.unusedVariables false
set_option linter.unusedSimpArgs false
set_option linter.unusedSectionVars false
namespace Go.Proofs.Ytnepgcbgkhikkaa.H
open Go.RowKit Go.Proofs.YtnepgcbgkhikkaaW.PrintWords Go.Proofs.YtnepgcbgkhikkaaW.PrintLast Go.Proofs.YtnepgcbgkhikkaaW.PrintMore
attribute [local go_sem] max2_int min2_int max_two min_two max_three min_three max_four min_four
def cfg_Next.f (l0 : List (Stmt)) (a1 : Int) : Option (List Int) := (cfg_within.f l0 a1).bind fun t102 => (if t102 = true then (if 0 ≤ a1 then (if a1 < (l0.length : Int) then (if ((rd_T30 l0 a1).kind) = 7 then ((cfg_sorted_int.f (([(rd_T30 l0 a1).a, (rd_T30 l0 a1).b] : List Int))).bind fun t109 => ((GNextDel.f t109 l0).bind fun t112 => (some t112))) else (if ((rd_T30 l0 a1).kind) = 8 then ((cfg_sorted_int.f (([(rd_T30 l0 a1).a] : List Int))).bind fun t119 => ((GNextDel.f t119 l0).bind fun t122 => (some t122))) else (if ((rd_T30 l0 a1).kind) = 9 then ((GNextDel.f ([] : List Int) l0).bind fun t125 => (some t125)) else ((cfg_sorted_int.f (([wrap64 (a1 + 1)] : List Int))).bind fun t131 => ((GNextDel.f t131 l0).bind fun t134 => (some t134)))))) else (none)) else (none)) else (some ([] : List Int)))
def cfg_Next.T7 : Bool × List (List Nat × List Nat) := (true, [([], []), ([], []), ([0, 1], [0, 1]), ([2], [2]), ([3], [3]), ([], []), ([], []), ([5, 6], [5, 6]), ([7], [7]), ([8], [8]), ([4, 9], [4, 9]), ([10], [10]), ([11, 11, 0, 1, 2, 3, 4, 5, 6, 7, 8, 9, 10, 11], [11])])
def cfg_Next.B7 : List Nat := [0, 0, 3, 7, 15, 0, 0, 96, 224, 480, 1023, 2047, 4095]
theorem cfg_Next.tab7 : rtab .any (opsOf Try.f19 7) = cfg_Next.T7 := by kernel_rfl
theorem cfg_Next.bits7 : waitsOk cfg_Next.T7.2 cfg_Next.B7 = true := by kernel_rfl
set_option maxHeartbeats 8000000 in
set_option maxRecDepth 100000 in
theorem cfg_Next.calls (A0 : Option Addr) (c0 : Nat) (l0 : List (Stmt)) (a1 : Int) (r : List Int) (w : World) (hr0 : Kd.C k30 w A0 l0.length l0) (hc0 : l0.length ≤ c0) (h : cfg_Next.f l0 a1 = some r) :
  Calls Try.prog 19 #[.slice A0 l0.length c0, .int .i64 a1] w fun e w' => ∃ v0_ : Value, e = .returned (v0_) ∧ Kd.R (Kd.int .i64) 3 w' w.heap.size (fun _ => True) v0_ r ∧ Below w.heap.size w w' := by
 have HR0 := am hr0
 have HC0 := am hc0
 clear hr0 hc0
 have HB := am (Below.refl w.heap.size w)
 have H : ((cfg_within.f l0 a1).bind fun t102 => (if t102 = true then (if 0 ≤ a1 then (if a1 < (l0.length : Int) then (if ((rd_T30 l0 a1).kind) = 7 then ((cfg_sorted_int.f (([(rd_T30 l0 a1).a, (rd_T30 l0 a1).b] : List Int))).bind fun t109 => ((GNextDel.f t109 l0).bind fun t112 => (some t112))) else (if ((rd_T30 l0 a1).kind) = 8 then ((cfg_sorted_int.f (([(rd_T30 l0 a1).a] : List Int))).bind fun t119 => ((GNextDel.f t119 l0).bind fun t122 => (some t122))) else (if ((rd_T30 l0 a1).kind) = 9 then ((GNextDel.f ([] : List Int) l0).bind fun t125 => (some t125)) else ((cfg_sorted_int.f (([wrap64 (a1 + 1)] : List Int))).bind fun t131 => ((GNextDel.f t131 l0).bind fun t134 => (some t134)))))) else (none)) else (none)) else (some ([] : List Int)))) = some r := h
 clear h
 replace H := Option.bind_eq_some_iff.mp H
 obtain ⟨t102, A30, H⟩ := H
 replace H : (if t102 = true then (if 0 ≤ a1 then (if a1 < (l0.length : Int) then (if ((rd_T30 l0 a1).kind) = 7 then ((cfg_sorted_int.f (([(rd_T30 l0 a1).a, (rd_T30 l0 a1).b] : List Int))).bind fun t109 => ((GNextDel.f t109 l0).bind fun t112 => (some t112))) else (if ((rd_T30 l0 a1).kind) = 8 then ((cfg_sorted_int.f (([(rd_T30 l0 a1).a] : List Int))).bind fun t119 => ((GNextDel.f t119 l0).bind fun t122 => (some t122))) else (if ((rd_T30 l0 a1).kind) = 9 then ((GNextDel.f ([] : List Int) l0).bind fun t125 => (some t125)) else ((cfg_sorted_int.f (([wrap64 (a1 + 1)] : List Int))).bind fun t131 => ((GNextDel.f t131 l0).bind fun t134 => (some t134)))))) else (none)) else (none)) else (some ([] : List Int))) = some r := H
 have A3 := am A30
 clear A30
 by_cases c4 : t102 = true
 ·subst c4
  have H1 : (if 0 ≤ a1 then (if a1 < (l0.length : Int) then (if ((rd_T30 l0 a1).kind) = 7 then ((cfg_sorted_int.f (([(rd_T30 l0 a1).a, (rd_T30 l0 a1).b] : List Int))).bind fun t109 => ((GNextDel.f t109 l0).bind fun t112 => (some t112))) else (if ((rd_T30 l0 a1).kind) = 8 then ((cfg_sorted_int.f (([(rd_T30 l0 a1).a] : List Int))).bind fun t119 => ((GNextDel.f t119 l0).bind fun t122 => (some t122))) else (if ((rd_T30 l0 a1).kind) = 9 then ((GNextDel.f ([] : List Int) l0).bind fun t125 => (some t125)) else ((cfg_sorted_int.f (([wrap64 (a1 + 1)] : List Int))).bind fun t131 => ((GNextDel.f t131 l0).bind fun t134 => (some t134)))))) else (none)) else (none)) = some r := by rw [if_pos rfl] at H; exact H
  clear H
  have H := H1
  clear H1
  by_cases c5 : 0 ≤ a1
  ·rw [if_pos c5] at H
   have c5b0 : decide (0 ≤ a1) = true := decide_eq_true c5
   clear c5
   by_cases c6 : a1 < (l0.length : Int)
   ·rw [if_pos c6] at H
    have c6b0 : decide (a1 < (l0.length : Int)) = true := decide_eq_true c6
    clear c6
    by_cases c7 : ((rd_T30 l0 a1).kind) = 7
    ·rw [if_pos c7] at H
     have c7b0 : (((rd_T30 l0 a1).kind) == 7) = true := beq_iff_eq.mpr c7
     have c7b1 : (((rd_T30 l0 a1).kind) != 7) = false := bne_eq_false_iff_eq.mpr c7
     clear c7
     obtain ⟨y106, hy106⟩ : ∃ y_ : List Int, y_ = (([(rd_T30 l0 a1).a, (rd_T30 l0 a1).b] : List Int)) := ⟨_, rfl⟩
     replace H : ((cfg_sorted_int.f y106).bind fun t109 => ((GNextDel.f t109 l0).bind fun t112 => (some t112))) = some r := by first | (rw [hy106]; with_reducible exact H) | (have H2_ := (Option.bind_some _ _).symm.trans H; rw [hy106]; with_reducible exact H2_) | (have H2_ := (Option.bind_some _ _).symm.trans H; with_reducible exact H2_) | with_reducible exact H | (rw [hy106]; exact H) | exact H
     have Ny106 := am hy106
     clear hy106
     replace H := Option.bind_eq_some_iff.mp H
     obtain ⟨t109, A80, H⟩ := H
     replace H : ((GNextDel.f t109 l0).bind fun t112 => (some t112)) = some r := H
     have A8 := am A80
     clear A80
     replace H := Option.bind_eq_some_iff.mp H
     obtain ⟨t112, A90, H⟩ := H
     replace H : (some t112) = some r := H
     have A9 := am A90
     clear A90
     obtain rfl := Option.some.inj H
     go_enter Try.func19, Try.ntmps19
     try go_wp2_with (first | ((with_reducible refine gate_dst (N := 2) rfl ?_); refine box_event ?hg (N := 2) ?hd (cs := #[.slice A0 l0.length c0]) (t := 22) ?hr ?_; (case hd => rfl); (case hg => rfl); (case hr => first | (go_simp; done) | (go_simp; rfl)); intro gb101 hg w10 hbox hb; have BK101 := am (hbox); have GW101 := am ((by rw [hg]; exact (below_size (by repeat (first | (with_reducible first | exact HB.out | apply lA | apply lN | apply lD) | exact HB.out))) : w.heap.size ≤ gb101)); have GE101 := am ((by rw [hg]; exact (below_size (by repeat (first | (with_reducible first | exact HB.out | apply lA | apply lN | apply lD) | exact HB.out))) : w.heap.size ≤ gb101)); replace HB := am (below_step (by repeat (first | (with_reducible first | exact HB.out | apply lA | apply lN | apply lD) | exact HB.out)) hb); clear hb hbox hg; have hcz11_0 : w10.cell? ⟨gb101, 0, none⟩ = some (.slice A0 l0.length c0) := (blk_cell BK101.out 0).trans rfl; have hfz11_0 := blk_frozen BK101.out 0) | ((with_reducible refine gate_callee (f := 42) rfl ?_); refine goesL_ (some 8) rfl rfl Try.func42 (by kernel_rfl) rfl #[.slice A0 l0.length c0, .int .i64 a1] rfl (by (try simp only [List.map_toArray, List.map_cons, List.map_nil]); first | done | rfl | (simp only [List.length_drop, List.length_take]; rfl)) ?_; (with_reducible refine (cfg_within.calls _ _ l0 a1 true _ ?side1 ?side2 A3.out).mono ?_); (case side1 => repeat (first | exact (Kd.C_below HR0.out HB.out) | (with_reducible refine Kd.C_alloc ?_ _) | (with_reducible refine Kd.C_drewN ?_ _) | (with_reducible refine Kd.C_drew ?_))); (case side2 => exact HC0.out); rintro e w' ⟨rfl, ⟨nd, rfl⟩⟩; refine ⟨_, rfl, ?_⟩; have p103 : 0 ≤ (a1 : Int) := of_decide_eq_true (by first | (with_reducible assumption) | assumption); have q103 : a1 < (l0.length : Int) := of_decide_eq_true (by first | (with_reducible assumption) | assumption); obtain ⟨ad103, e103, hx103_0, hx103_1, hx103_2, hx103_3, hx103_4, hx103_5, hx103_6, hx103_7⟩ := at_T30 HR0.out a1 p103 q103; cases e103; replace hx103_0 := (HB.out.cell (blt_ hx103_0)).trans hx103_0; replace hx103_1 := (HB.out.cell (blt_ hx103_1)).trans hx103_1; replace hx103_2 := (HB.out.cell (blt_ hx103_2)).trans hx103_2; replace hx103_3 := (HB.out.cell (blt_ hx103_3)).trans hx103_3; replace hx103_4 := (HB.out.cell (blt_ hx103_4)).trans hx103_4; replace hx103_5 := (HB.out.cell (blt_ hx103_5)).trans hx103_5; replace hx103_6 := (HB.out.cell (blt_ hx103_6)).trans hx103_6; replace hx103_7 := (HB.out.cell (blt_ hx103_7)).trans hx103_7; replace p103 := eq_true p103; replace q103 := eq_true q103))
     (try (rw [drewN_self w10]; generalize hq_ : World.drewN w10 _ = w10; replace BK101 : Aside0 (w10.heap[gb101]? = some (.cells #[.slice (some ad103) l0.length c0] 22 (0, 0))) := ⟨by rw [← hq_]; exact (by (with_reducible repeat (first | refine bN ?_ _ | refine bD ?_ | refine bA ?_ _)); exact BK101.out)⟩; replace HB : Aside0 (Below w.heap.size w w10) := ⟨by rw [← hq_]; exact (by repeat (first | (with_reducible first | exact HB.out | apply lA | apply lN | apply lD | refine lS ?_ GE101.out) | exact HB.out))⟩; clear hq_))
     replace BK101 := am (blk_drew BK101.out)
     replace HB := am (below_drew1 HB.out)
     have p104 : 0 ≤ (a1 : Int) := of_decide_eq_true (by first | (with_reducible assumption) | assumption)
     have q104 : a1 < (l0.length : Int) := of_decide_eq_true (by first | (with_reducible assumption) | assumption)
     obtain ⟨ad104, e104, hx104_0, hx104_1, hx104_2, hx104_3, hx104_4, hx104_5, hx104_6, hx104_7⟩ := at_T30 HR0.out a1 p104 q104
     have hw104_7 := hx104_7
     have hw104_6 := hx104_6
     have hw104_5 := hx104_5
     have hw104_4 := hx104_4
     have hw104_3 := hx104_3
     have hw104_2 := hx104_2
     have hw104_1 := hx104_1
     have hw104_0 := hx104_0
     obtain rfl : ad103 = ad104 := (by injection e104)
     replace hx104_0 := (HB.out.cell (blt_ hx104_0)).trans hx104_0
     replace hx104_1 := (HB.out.cell (blt_ hx104_1)).trans hx104_1
     replace hx104_2 := (HB.out.cell (blt_ hx104_2)).trans hx104_2
     replace hx104_3 := (HB.out.cell (blt_ hx104_3)).trans hx104_3
     replace hx104_4 := (HB.out.cell (blt_ hx104_4)).trans hx104_4
     replace hx104_5 := (HB.out.cell (blt_ hx104_5)).trans hx104_5
     replace hx104_6 := (HB.out.cell (blt_ hx104_6)).trans hx104_6
     replace hx104_7 := (HB.out.cell (blt_ hx104_7)).trans hx104_7
     replace p104 := eq_true p104
     replace q104 := eq_true q104
     have p105 : 0 ≤ (a1 : Int) := of_decide_eq_true (by first | (with_reducible assumption) | assumption)
     have q105 : a1 < (l0.length : Int) := of_decide_eq_true (by first | (with_reducible assumption) | assumption)
     obtain ⟨ad105, e105, hx105_0, hx105_1, hx105_2, hx105_3, hx105_4, hx105_5, hx105_6, hx105_7⟩ := at_T30 HR0.out a1 p105 q105
     have hw105_7 := hx105_7
     have hw105_6 := hx105_6
     have hw105_5 := hx105_5
     have hw105_4 := hx105_4
     have hw105_3 := hx105_3
     have hw105_2 := hx105_2
     have hw105_1 := hx105_1
     have hw105_0 := hx105_0
     obtain rfl : ad103 = ad105 := (by injection e105)
     replace hx105_0 := (HB.out.cell (blt_ hx105_0)).trans hx105_0
     replace hx105_1 := (HB.out.cell (blt_ hx105_1)).trans hx105_1
     replace hx105_2 := (HB.out.cell (blt_ hx105_2)).trans hx105_2
     replace hx105_3 := (HB.out.cell (blt_ hx105_3)).trans hx105_3
     replace hx105_4 := (HB.out.cell (blt_ hx105_4)).trans hx105_4
     replace hx105_5 := (HB.out.cell (blt_ hx105_5)).trans hx105_5
     replace hx105_6 := (HB.out.cell (blt_ hx105_6)).trans hx105_6
     replace hx105_7 := (HB.out.cell (blt_ hx105_7)).trans hx105_7
     replace p105 := eq_true p105
     replace q105 := eq_true q105
     refine start_ (n := 13) (S := fun w' => w'.cell? ⟨gb101, 0, none⟩ = some (.slice (some ad103) l0.length c0) ∧ w'.cell? (ad103.add ((a1).toNat * 8)) = some (.int .i64 ((rd_T30 l0 a1).kind)) ∧ w'.cell? ⟨(ad103.add ((a1).toNat * 8)).block, (ad103.add ((a1).toNat * 8)).off + 1, none⟩ = some (.string ((rd_T30 l0 a1).x)) ∧ w'.cell? ⟨(ad103.add ((a1).toNat * 8)).block, (ad103.add ((a1).toNat * 8)).off + 2, none⟩ = some (.string ((rd_T30 l0 a1).y)) ∧ w'.cell? ⟨(ad103.add ((a1).toNat * 8)).block, (ad103.add ((a1).toNat * 8)).off + 3, none⟩ = some (.string ((rd_T30 l0 a1).z)) ∧ w'.cell? ⟨(ad103.add ((a1).toNat * 8)).block, (ad103.add ((a1).toNat * 8)).off + 4, none⟩ = some (.string ((rd_T30 l0 a1).op)) ∧ w'.cell? ⟨(ad103.add ((a1).toNat * 8)).block, (ad103.add ((a1).toNat * 8)).off + 5, none⟩ = some (.int .i64 ((rd_T30 l0 a1).n)) ∧ w'.cell? ⟨(ad103.add ((a1).toNat * 8)).block, (ad103.add ((a1).toNat * 8)).off + 6, none⟩ = some (.int .i64 ((rd_T30 l0 a1).a)) ∧ w'.cell? ⟨(ad103.add ((a1).toNat * 8)).block, (ad103.add ((a1).toNat * 8)).off + 7, none⟩ = some (.int .i64 ((rd_T30 l0 a1).b)) ∧ w'.cell? (ad103.add ((a1).toNat * 8)) = some (.int .i64 ((rd_T30 l0 a1).kind)) ∧ w'.cell? ⟨(ad103.add ((a1).toNat * 8)).block, (ad103.add ((a1).toNat * 8)).off + 1, none⟩ = some (.string ((rd_T30 l0 a1).x)) ∧ w'.cell? ⟨(ad103.add ((a1).toNat * 8)).block, (ad103.add ((a1).toNat * 8)).off + 2, none⟩ = some (.string ((rd_T30 l0 a1).y)) ∧ w'.cell? ⟨(ad103.add ((a1).toNat * 8)).block, (ad103.add ((a1).toNat * 8)).off + 3, none⟩ = some (.string ((rd_T30 l0 a1).z)) ∧ w'.cell? ⟨(ad103.add ((a1).toNat * 8)).block, (ad103.add ((a1).toNat * 8)).off + 4, none⟩ = some (.string ((rd_T30 l0 a1).op)) ∧ w'.cell? ⟨(ad103.add ((a1).toNat * 8)).block, (ad103.add ((a1).toNat * 8)).off + 5, none⟩ = some (.int .i64 ((rd_T30 l0 a1).n)) ∧ w'.cell? ⟨(ad103.add ((a1).toNat * 8)).block, (ad103.add ((a1).toNat * 8)).off + 6, none⟩ = some (.int .i64 ((rd_T30 l0 a1).a)) ∧ w'.cell? ⟨(ad103.add ((a1).toNat * 8)).block, (ad103.add ((a1).toNat * 8)).off + 7, none⟩ = some (.int .i64 ((rd_T30 l0 a1).b))) (ds := []) (bl 13 0) (by kernel_rfl) rfl rfl ⟨(blk_cell BK101.out 0).trans rfl, ((HB.out.cell (blt_ hw104_0)).trans hw104_0), ((HB.out.cell (blt_ hw104_1)).trans hw104_1), ((HB.out.cell (blt_ hw104_2)).trans hw104_2), ((HB.out.cell (blt_ hw104_3)).trans hw104_3), ((HB.out.cell (blt_ hw104_4)).trans hw104_4), ((HB.out.cell (blt_ hw104_5)).trans hw104_5), ((HB.out.cell (blt_ hw104_6)).trans hw104_6), ((HB.out.cell (blt_ hw104_7)).trans hw104_7), ((HB.out.cell (blt_ hw105_0)).trans hw105_0), ((HB.out.cell (blt_ hw105_1)).trans hw105_1), ((HB.out.cell (blt_ hw105_2)).trans hw105_2), ((HB.out.cell (blt_ hw105_3)).trans hw105_3), ((HB.out.cell (blt_ hw105_4)).trans hw105_4), ((HB.out.cell (blt_ hw105_5)).trans hw105_5), ((HB.out.cell (blt_ hw105_6)).trans hw105_6), ((HB.out.cell (blt_ hw105_7)).trans hw105_7)⟩ (fun hHeld => ?_); refine with_tabW cfg_Next.tab7 cfg_Next.bits7 (fun HT_ HW_ => ?_)
     generalize w10.drew = w12 at BK101 HB hx104_0 hx104_1 hx104_2 hx104_3 hx104_4 hx104_5 hx104_6 hx104_7 hx105_0 hx105_1 hx105_2 hx105_3 hx105_4 hx105_5 hx105_6 hx105_7 hHeld ⊢
     refine pure_ (i := 1) (N := some 22) (v := ?_) (a' := ?_) (bl 13 2) rfl rfl (any_of HT_.out (by kernel_rfl)) (fun _ _ _ h => h) (Or.inl ⟨by rfl, ?_⟩) ?_ ?_
     rotate_left
     ·intro w'
      go_simp
      with_reducible rfl
     rotate_left
     ·simp only [Act.put, sA, sZ, sS, i64_w, i32_w]
      rfl
     refine pure_ (i := 6) (N := some 27) (v := ?_) (a' := ?_) (bl 13 66) rfl rfl (any_of HT_.out (by kernel_rfl)) (fun _ _ _ h => h) (Or.inl ⟨by rfl, ?_⟩) ?_ ?_
     rotate_left
     ·intro w'
      go_simp
      with_reducible rfl
     rotate_left
     ·simp only [Act.put, sA, sZ, sS, i64_w, i32_w]
      rfl
     refine take_ (i := 0) (N := some 21) (v := ?_) (a' := ?_) (bl 13 67) rfl rfl (take_ofW HT_.out HW_.out (by kernel_rfl)) (fun _ _ _ h => h) (Or.inl ⟨by rfl, ?_⟩) hHeld ?_ ?_
     rotate_left
     ·rintro w' ⟨s0, s1, s2, s3, s4, s5, s6, s7, s8, s9, s10, s11, s12, s13, s14, s15, s16⟩
      go_simp
      with_reducible rfl
     rotate_left
     ·simp only [Act.put, sA, sZ, sS, i64_w, i32_w]
      rfl
     refine pure_ (i := 2) (N := some 23) (v := ?_) (a' := ?_) (bl 13 71) rfl rfl (any_of HT_.out (by kernel_rfl)) (fun _ _ _ h => h) (Or.inl ⟨by rfl, ?_⟩) ?_ ?_
     rotate_left
     ·intro w'
      go_simp
      with_reducible rfl
     rotate_left
     ·simp only [Act.put, sA, sZ, sS, i64_w, i32_w]
      rfl
     refine pure_ (i := 3) (N := some 24) (v := ?_) (a' := ?_) (bl 13 79) rfl rfl (any_of HT_.out (by kernel_rfl)) (fun _ _ _ h => h) (Or.inl ⟨by rfl, ?_⟩) ?_ ?_
     rotate_left
     ·intro w'
      go_simp
      with_reducible rfl
     rotate_left
     ·simp only [Act.put, sA, sZ, sS, i64_w, i32_w]
      rfl
     refine take_ (i := 4) (N := some 25) (v := ?_) (a' := ?_) (bl 13 95) rfl rfl (take_ofW HT_.out HW_.out (by kernel_rfl)) (fun _ _ _ h => h) (Or.inl ⟨by rfl, ?_⟩) hHeld ?_ ?_
     rotate_left
     ·rintro w' ⟨s0, s1, s2, s3, s4, s5, s6, s7, s8, s9, s10, s11, s12, s13, s14, s15, s16⟩
      go_simp
      with_reducible rfl
     rotate_left
     ·simp only [Act.put, sA, sZ, sS, i64_w, i32_w]
      rfl
     refine take_ (i := 5) (N := some 26) (v := ?_) (a' := ?_) (bl 13 127) rfl rfl (take_ofW HT_.out HW_.out (by kernel_rfl)) (fun _ _ _ h => h) (Or.inl ⟨by rfl, ?_⟩) hHeld ?_ ?_
     rotate_left
     ·rintro w' ⟨s0, s1, s2, s3, s4, s5, s6, s7, s8, s9, s10, s11, s12, s13, s14, s15, s16⟩
      go_simp
      with_reducible rfl
     rotate_left
     ·simp only [Act.put, sA, sZ, sS, i64_w, i32_w]
      rfl
     refine pure_ (i := 7) (N := some 28) (v := ?_) (a' := ?_) (bl 13 255) rfl rfl (any_of HT_.out (by kernel_rfl)) (fun _ _ _ h => h) (Or.inl ⟨by rfl, ?_⟩) ?_ ?_
     rotate_left
     ·intro w'
      go_simp
      with_reducible rfl
     rotate_left
     ·simp only [Act.put, sA, sZ, sS, i64_w, i32_w]
      rfl
     refine pure_ (i := 8) (N := some 29) (v := ?_) (a' := ?_) (bl 13 511) rfl rfl (any_of HT_.out (by kernel_rfl)) (fun _ _ _ h => h) (Or.inl ⟨by rfl, ?_⟩) ?_ ?_
     rotate_left
     ·intro w'
      go_simp
      with_reducible rfl
     rotate_left
     ·simp only [Act.put, sA, sZ, sS, i64_w, i32_w]
      rfl
     refine take_ (i := 9) (N := some 30) (v := ?_) (a' := ?_) (bl 13 1023) rfl rfl (take_ofW HT_.out HW_.out (by kernel_rfl)) (fun _ _ _ h => h) (Or.inl ⟨by rfl, ?_⟩) hHeld ?_ ?_
     rotate_left
     ·rintro w' ⟨s0, s1, s2, s3, s4, s5, s6, s7, s8, s9, s10, s11, s12, s13, s14, s15, s16⟩
      go_simp
      with_reducible rfl
     rotate_left
     ·simp only [Act.put, sA, sZ, sS, i64_w, i32_w]
      rfl
     refine one_ (i := 10) (N := some 31) (bl 13 2047) rfl rfl (one_of HT_.out (by kernel_rfl)) (by decide) (fun K hK => ?_)
     refine Kd.R_lit_step (Kd.int .i64) _ 3 ?hg (N := 31) ?hd (xs := ([(rd_T30 l0 a1).a, (rd_T30 l0 a1).b] : List Int)) (inner := [.int .i64 ((rd_T30 l0 a1).a), .int .i64 ((rd_T30 l0 a1).b)]) (ok := fun _ => True) (okp := fun _ => True) ?hr ?hp (fun _ hk => hk) trivial (Below.refl _ _) (Nat.le_refl _) (by simp) ?_; (case hd => rfl); (case hg => rfl); (case hr => first | (go_simp; done) | (go_simp; rfl)); (case hp => exact (Reps.one (show Kd.M (Kd.int .i64) _ _ _ ((rd_T30 l0 a1).a) [.int .i64 ((rd_T30 l0 a1).a)] from rfl) (Reps.one (show Kd.M (Kd.int .i64) _ _ _ ((rd_T30 l0 a1).b) [.int .i64 ((rd_T30 l0 a1).b)] from rfl) (Reps.none _ _))))
     intro v107 w13 ho14 hb hg_ hnew_
     clear hg_ hnew_
     (first | rw [← Ny106.out] at ho14 | (simp only [Int.reduceToNat] at ho14; rw [← Ny106.out] at ho14))
     have HO108 := am (Kd.R_lower ho14 (below_size (by repeat (first | (with_reducible first | exact HB.out | apply lA | apply lN | apply lD | refine lS ?_ GE101.out) | exact HB.out))))
     replace BK101 := am (blk_below (g := gb101) (o := .cells #[.slice (some ad103) l0.length c0] 22 (0, 0)) (by (with_reducible repeat (first | refine bN ?_ _ | refine bD ?_ | refine bA ?_ _)); exact BK101.out) hb)
     replace HB := am (below_step (by repeat (first | (with_reducible first | exact HB.out | apply lA | apply lN | apply lD | refine lS ?_ GE101.out) | exact HB.out)) hb)
     clear hb ho14
     obtain ⟨Ao15, co15, eo15⟩ := Kd.R_slice HO108.out
     (first | subst eo15 | (injection eo15 with f1_ f2_ f3_; have f4_ := f1_.symm; have f5_ := f3_.symm; clear f1_ f2_ f3_; subst f4_; subst f5_))
     refine hK.out _ _ ⟨(blk_cell BK101.out 0).trans rfl, ((HB.out.cell (blt_ hw104_0)).trans hw104_0), ((HB.out.cell (blt_ hw104_1)).trans hw104_1), ((HB.out.cell (blt_ hw104_2)).trans hw104_2), ((HB.out.cell (blt_ hw104_3)).trans hw104_3), ((HB.out.cell (blt_ hw104_4)).trans hw104_4), ((HB.out.cell (blt_ hw104_5)).trans hw104_5), ((HB.out.cell (blt_ hw104_6)).trans hw104_6), ((HB.out.cell (blt_ hw104_7)).trans hw104_7), ((HB.out.cell (blt_ hw105_0)).trans hw105_0), ((HB.out.cell (blt_ hw105_1)).trans hw105_1), ((HB.out.cell (blt_ hw105_2)).trans hw105_2), ((HB.out.cell (blt_ hw105_3)).trans hw105_3), ((HB.out.cell (blt_ hw105_4)).trans hw105_4), ((HB.out.cell (blt_ hw105_5)).trans hw105_5), ((HB.out.cell (blt_ hw105_6)).trans hw105_6), ((HB.out.cell (blt_ hw105_7)).trans hw105_7)⟩ (fun hHeld => ?_)
     clear hK K
     refine norm_ (a' := ?_) ?_ ?_
     rotate_left
     ·show Act.put _ (some 31) _ = _
      simp only [Act.put, sA, sZ, sS, i64_w, i32_w]
      rfl
     refine one_ (i := 11) (N := some 32) (bl 13 4095) rfl rfl (one_of HT_.out (by kernel_rfl)) (by decide) (fun K hK => ?_)
     refine goes_ Try.func47 (by kernel_rfl) rfl #[.slice Ao15 y106.length co15] (by rfl) rfl rfl (by (try simp only [List.map_toArray, List.map_cons, List.map_nil]); first | done | rfl | (simp only [List.length_drop, List.length_take]; rfl)) ?_
     with_reducible refine (cfg_sorted_int.calls _ _ y106 t109 _ ?side1 ?side2 A8.out).mono ?_
     (case side1 => repeat (first | exact (Kd.R_reads' HO108.out).2.2 | (with_reducible refine Kd.C_alloc ?_ _) | (with_reducible refine Kd.C_drewN ?_ _) | (with_reducible refine Kd.C_drew ?_)))
     (case side2 => exact (Kd.R_reads' HO108.out).2.1)
     rintro e w16 ⟨v110, rfl, ho0, hb⟩
     refine ⟨_, rfl, ?_⟩
     have HO111 := am (Kd.R_lower (Kd.R_new' ho0 (Kd.R_lt (by (with_reducible repeat (first | apply Ra | apply Rn | apply Rd)); exact HO108.out))) (below_size (by repeat (first | (with_reducible first | exact HB.out | apply lA | apply lN | apply lD | refine lS ?_ GE101.out) | exact HB.out))))
     replace HO108 := am (Kd.R_elder' (by (with_reducible repeat (first | apply Ra | apply Rn | apply Rd)); exact HO108.out) (Kd.R_base ho0) hb)
     replace BK101 := am (blk_below (g := gb101) (o := .cells #[.slice (some ad103) l0.length c0] 22 (0, 0)) (by (with_reducible repeat (first | refine bN ?_ _ | refine bD ?_ | refine bA ?_ _)); exact BK101.out) hb)
     replace HB := am (below_step (by repeat (first | (with_reducible first | exact HB.out | apply lA | apply lN | apply lD | refine lS ?_ GE101.out) | exact HB.out)) hb)
     (try clear hb)
     (try clear hb2)
     (try clear hk)
     (try clear hi)
     (try clear ho0)
     refine hK.out _ _ ⟨(blk_cell BK101.out 0).trans rfl, ((HB.out.cell (blt_ hw104_0)).trans hw104_0), ((HB.out.cell (blt_ hw104_1)).trans hw104_1), ((HB.out.cell (blt_ hw104_2)).trans hw104_2), ((HB.out.cell (blt_ hw104_3)).trans hw104_3), ((HB.out.cell (blt_ hw104_4)).trans hw104_4), ((HB.out.cell (blt_ hw104_5)).trans hw104_5), ((HB.out.cell (blt_ hw104_6)).trans hw104_6), ((HB.out.cell (blt_ hw104_7)).trans hw104_7), ((HB.out.cell (blt_ hw105_0)).trans hw105_0), ((HB.out.cell (blt_ hw105_1)).trans hw105_1), ((HB.out.cell (blt_ hw105_2)).trans hw105_2), ((HB.out.cell (blt_ hw105_3)).trans hw105_3), ((HB.out.cell (blt_ hw105_4)).trans hw105_4), ((HB.out.cell (blt_ hw105_5)).trans hw105_5), ((HB.out.cell (blt_ hw105_6)).trans hw105_6), ((HB.out.cell (blt_ hw105_7)).trans hw105_7)⟩ (fun hHeld => ?_)
     clear hK K
     refine norm_ (a' := ?_) ?_ ?_
     rotate_left
     ·show Act.put _ (some 32) _ = _
      simp only [Act.put, sA, sZ, sS, i64_w, i32_w]
      rfl
     refine pure_ (i := 12) (N := some 5) (v := ?_) (a' := ?_) (bl 13 8191) rfl rfl (any_of HT_.out (by kernel_rfl)) (fun _ _ _ h => h) (Or.inl ⟨by rfl, ?_⟩) ?_ ?_
     rotate_left
     ·intro w'
      go_simp
      with_reducible rfl
     rotate_left
     ·simp only [Act.put, sA, sZ, sS, i64_w, i32_w]
      rfl
     refine done_ (done_of HT_.out (by kernel_rfl)) ?_
     obtain ⟨Ao17, co17, eo17⟩ := Kd.R_slice HO111.out
     subst eo17
     try go_wp2_with (first | ((with_reducible refine gate_callee (f := 48) rfl ?_); refine goesL_ (some 46) rfl rfl Try.func48 (by kernel_rfl) rfl #[.slice Ao17 t109.length co17, .func (.func 49) #[] #[.pointer (some ⟨gb101, 0, none⟩)]] rfl (by (try simp only [List.map_toArray, List.map_cons, List.map_nil]); first | done | rfl | (simp only [List.length_drop, List.length_take]; rfl)) ?_; (refine (GNextDel.calls (fun k_ => some k_ = (.slice Ao17 t109.length co17 : Value).ownBlock) (.slice Ao17 t109.length co17) t109 (some ad103) c0 l0 t112 w _ ?side1 ?side2 ?side3 ?side4 ?side5 A9.out).mono ?_); (case side1 => repeat (first | (with_reducible first | exact HB.out | apply lA | apply lN | apply lD | refine lS ?_ GE101.out) | exact HB.out)); (case side2 => exact Kd.R_tight rfl HO111.out); (case side3 => exact Kd.C_kept_came k30_heap HR0.out (by repeat (first | (with_reducible first | exact HB.out | apply lA | apply lN | apply lD | refine lS ?_ GE101.out) | exact HB.out)) (fun k_ hs_ => (fun e_ => Kd.R_base HO111.out k_ e_.symm) hs_)); (case side4 => exact HC0.out); (case side5 => (with_reducible repeat (first | refine bN ?_ _ | refine bD ?_ | refine bA ?_ _)); exact BK101.out); rintro e w18 ⟨v113, rfl, ho0, hb, hkp⟩; refine ⟨_, rfl, ?_⟩; replace BK101 := am (blk_kept (by (with_reducible repeat (first | refine bN ?_ _ | refine bD ?_ | refine bA ?_ _)); exact BK101.out) hkp (fun hs_ => (fun e_ => (Kd.R_ne HO111.out BK101.out (by decide)) e_) hs_)); have HO114 := am (Kd.R_mono (ok' := fun k_ => some k_ ≠ (.slice Ao15 y106.length co15 : Value).ownBlock) ho0 (fun k_ hk_ => Or.elim hk_ (fun hs_ => fun e_ => (((HO108.out).1 k_ e_.symm).2) hs_) (fun hn_ => (Kd.fresh' (Kd.R_lt (by (with_reducible repeat (first | apply Ra | apply Rn | apply Rd)); exact HO108.out)) k_ hn_)))); replace HO108 := am (Kd.R_mono (ok' := fun k_ => some k_ ≠ (v113 : Value).ownBlock) (Kd.R_keptB (HO108.out) hkp (fun k_ hk_ hs_ => (hk_.2) hs_)) (fun k_ hk_ => fun e_ => Or.elim (ho0.1 k_ e_.symm) (fun hs_ => hk_.2.1 hs_) (fun hn_ => Nat.not_le.2 hk_.2.2 hn_))); replace HB := am (hb); clear HO111; (try clear hb); (try clear hkp); (try clear ho0)))
     go_ret
     exact ⟨_, by first | rfl | (simp [errW_none, errW_some] <;> rfl) | (simp [*, errW_none, errW_some] <;> rfl), by (with_reducible repeat (first | apply Ra | apply Rn | apply Rd)); exact Kd.R_mono HO114.out (fun _ hk => trivial), by repeat (first | (with_reducible first | exact HB.out | apply lA | apply lN | apply lD | refine lS ?_ GE101.out) | exact HB.out)⟩
    ·rw [if_neg c7] at H
     have c7b0 : (((rd_T30 l0 a1).kind) == 7) = false := beq_eq_false_iff_ne.mpr c7
     have c7b1 : (((rd_T30 l0 a1).kind) != 7) = true := bne_iff_ne.mpr c7
     by_cases c19 : ((rd_T30 l0 a1).kind) = 8
     ·rw [if_pos c19] at H
      have c19b0 : (((rd_T30 l0 a1).kind) == 8) = true := beq_iff_eq.mpr c19
      have c19b1 : (((rd_T30 l0 a1).kind) != 8) = false := bne_eq_false_iff_eq.mpr c19
      clear c19
      obtain ⟨y116, hy116⟩ : ∃ y_ : List Int, y_ = (([(rd_T30 l0 a1).a] : List Int)) := ⟨_, rfl⟩
      replace H : ((cfg_sorted_int.f y116).bind fun t119 => ((GNextDel.f t119 l0).bind fun t122 => (some t122))) = some r := by first | (rw [hy116]; with_reducible exact H) | (have H2_ := (Option.bind_some _ _).symm.trans H; rw [hy116]; with_reducible exact H2_) | (have H2_ := (Option.bind_some _ _).symm.trans H; with_reducible exact H2_) | with_reducible exact H | (rw [hy116]; exact H) | exact H
      have Ny116 := am hy116
      clear hy116
      replace H := Option.bind_eq_some_iff.mp H
      obtain ⟨t119, A200, H⟩ := H
      replace H : ((GNextDel.f t119 l0).bind fun t122 => (some t122)) = some r := H
      have A20 := am A200
      clear A200
      replace H := Option.bind_eq_some_iff.mp H
      obtain ⟨t122, A210, H⟩ := H
      replace H : (some t122) = some r := H
      have A21 := am A210
      clear A210
      obtain rfl := Option.some.inj H
      go_enter Try.func19, Try.ntmps19
      go_wp2_with (first | ((with_reducible refine gate_dst (N := 2) rfl ?_); refine box_event ?hg (N := 2) ?hd (cs := #[.slice A0 l0.length c0]) (t := 22) ?hr ?_; (case hd => rfl); (case hg => rfl); (case hr => first | (go_simp; done) | (go_simp; rfl)); intro gb101 hg w22 hbox hb; have BK101 := am (hbox); have GW101 := am ((by rw [hg]; exact (below_size (by repeat (first | (with_reducible first | exact HB.out | apply lA | apply lN | apply lD) | exact HB.out))) : w.heap.size ≤ gb101)); have GE101 := am ((by rw [hg]; exact (below_size (by repeat (first | (with_reducible first | exact HB.out | apply lA | apply lN | apply lD) | exact HB.out))) : w.heap.size ≤ gb101)); replace HB := am (below_step (by repeat (first | (with_reducible first | exact HB.out | apply lA | apply lN | apply lD) | exact HB.out)) hb); clear hb hbox hg; have hcz23_0 : w22.cell? ⟨gb101, 0, none⟩ = some (.slice A0 l0.length c0) := (blk_cell BK101.out 0).trans rfl; have hfz23_0 := blk_frozen BK101.out 0) | ((with_reducible refine gate_callee (f := 42) rfl ?_); refine goesL_ (some 8) rfl rfl Try.func42 (by kernel_rfl) rfl #[.slice A0 l0.length c0, .int .i64 a1] rfl (by (try simp only [List.map_toArray, List.map_cons, List.map_nil]); first | done | rfl | (simp only [List.length_drop, List.length_take]; rfl)) ?_; (with_reducible refine (cfg_within.calls _ _ l0 a1 true _ ?side1 ?side2 A3.out).mono ?_); (case side1 => repeat (first | exact (Kd.C_below HR0.out HB.out) | (with_reducible refine Kd.C_alloc ?_ _) | (with_reducible refine Kd.C_drewN ?_ _) | (with_reducible refine Kd.C_drew ?_))); (case side2 => exact HC0.out); rintro e w' ⟨rfl, ⟨nd, rfl⟩⟩; refine ⟨_, rfl, ?_⟩; have p103 : 0 ≤ (a1 : Int) := of_decide_eq_true (by first | (with_reducible assumption) | assumption); have q103 : a1 < (l0.length : Int) := of_decide_eq_true (by first | (with_reducible assumption) | assumption); obtain ⟨ad103, e103, hx103_0, hx103_1, hx103_2, hx103_3, hx103_4, hx103_5, hx103_6, hx103_7⟩ := at_T30 HR0.out a1 p103 q103; cases e103; replace hx103_0 := (HB.out.cell (blt_ hx103_0)).trans hx103_0; replace hx103_1 := (HB.out.cell (blt_ hx103_1)).trans hx103_1; replace hx103_2 := (HB.out.cell (blt_ hx103_2)).trans hx103_2; replace hx103_3 := (HB.out.cell (blt_ hx103_3)).trans hx103_3; replace hx103_4 := (HB.out.cell (blt_ hx103_4)).trans hx103_4; replace hx103_5 := (HB.out.cell (blt_ hx103_5)).trans hx103_5; replace hx103_6 := (HB.out.cell (blt_ hx103_6)).trans hx103_6; replace hx103_7 := (HB.out.cell (blt_ hx103_7)).trans hx103_7; replace p103 := eq_true p103; replace q103 := eq_true q103; have p115 : 0 ≤ (a1 : Int) := of_decide_eq_true (by first | (with_reducible assumption) | assumption); have q115 : a1 < (l0.length : Int) := of_decide_eq_true (by first | (with_reducible assumption) | assumption); obtain ⟨ad115, e115, hx115_0, hx115_1, hx115_2, hx115_3, hx115_4, hx115_5, hx115_6, hx115_7⟩ := at_T30 HR0.out a1 p115 q115; obtain rfl : ad103 = ad115 := (by injection e115); replace hx115_0 := (HB.out.cell (blt_ hx115_0)).trans hx115_0; replace hx115_1 := (HB.out.cell (blt_ hx115_1)).trans hx115_1; replace hx115_2 := (HB.out.cell (blt_ hx115_2)).trans hx115_2; replace hx115_3 := (HB.out.cell (blt_ hx115_3)).trans hx115_3; replace hx115_4 := (HB.out.cell (blt_ hx115_4)).trans hx115_4; replace hx115_5 := (HB.out.cell (blt_ hx115_5)).trans hx115_5; replace hx115_6 := (HB.out.cell (blt_ hx115_6)).trans hx115_6; replace hx115_7 := (HB.out.cell (blt_ hx115_7)).trans hx115_7; replace p115 := eq_true p115; replace q115 := eq_true q115) | ((with_reducible refine gate_dst (N := 40) rfl ?_); refine Kd.R_lit (Kd.int .i64) _ 3 ?hg (N := 40) ?hd (xs := ([(rd_T30 l0 a1).a] : List Int)) (inner := [.int .i64 ((rd_T30 l0 a1).a)]) (ok := fun _ => True) (okp := fun _ => True) ?hr ?hp (fun _ hk => hk) trivial (Below.refl _ _) (Nat.le_refl _) (by simp) ?_; (case hd => rfl); (case hg => rfl); (case hr => first | (go_simp; done) | (go_simp; rfl)); (case hp => exact (Reps.one (show Kd.M (Kd.int .i64) _ _ _ ((rd_T30 l0 a1).a) [.int .i64 ((rd_T30 l0 a1).a)] from rfl) (Reps.none _ _))); intro v117 w24 ho25 hb hg_ hnew_; clear hg_ hnew_; (first | rw [← Ny116.out] at ho25 | (simp only [Int.reduceToNat] at ho25; rw [← Ny116.out] at ho25)); have HO118 := am (Kd.R_lower ho25 (below_size (by repeat (first | (with_reducible first | exact HB.out | apply lA | apply lN | apply lD | refine lS ?_ GE101.out) | exact HB.out)))); replace BK101 := am (blk_below (g := gb101) (o := .cells #[.slice (some ad103) l0.length c0] 22 (0, 0)) (by (with_reducible repeat (first | refine bN ?_ _ | refine bD ?_ | refine bA ?_ _)); exact BK101.out) hb); replace HB := am (below_step (by repeat (first | (with_reducible first | exact HB.out | apply lA | apply lN | apply lD | refine lS ?_ GE101.out) | exact HB.out)) hb); clear hb ho25; obtain ⟨Ao26, co26, eo26⟩ := Kd.R_slice HO118.out; subst eo26) | ((with_reducible refine gate_callee (f := 47) rfl ?_); refine goesL_ (some 41) rfl rfl Try.func47 (by kernel_rfl) rfl #[.slice Ao26 y116.length co26] rfl (by (try simp only [List.map_toArray, List.map_cons, List.map_nil]); first | done | rfl | (simp only [List.length_drop, List.length_take]; rfl)) ?_; (with_reducible refine (cfg_sorted_int.calls _ _ y116 t119 _ ?side1 ?side2 A20.out).mono ?_); (case side1 => repeat (first | exact (Kd.R_reads' HO118.out).2.2 | (with_reducible refine Kd.C_alloc ?_ _) | (with_reducible refine Kd.C_drewN ?_ _) | (with_reducible refine Kd.C_drew ?_))); (case side2 => exact (Kd.R_reads' HO118.out).2.1); rintro e w27 ⟨v120, rfl, ho0, hb⟩; refine ⟨_, rfl, ?_⟩; have HO121 := am (Kd.R_lower (Kd.R_new' ho0 (Kd.R_lt (by (with_reducible repeat (first | apply Ra | apply Rn | apply Rd)); exact HO118.out))) (below_size (by repeat (first | (with_reducible first | exact HB.out | apply lA | apply lN | apply lD | refine lS ?_ GE101.out) | exact HB.out)))); replace HO118 := am (Kd.R_elder' (by (with_reducible repeat (first | apply Ra | apply Rn | apply Rd)); exact HO118.out) (Kd.R_base ho0) hb); replace BK101 := am (blk_below (g := gb101) (o := .cells #[.slice (some ad103) l0.length c0] 22 (0, 0)) (by (with_reducible repeat (first | refine bN ?_ _ | refine bD ?_ | refine bA ?_ _)); exact BK101.out) hb); replace HB := am (below_step (by repeat (first | (with_reducible first | exact HB.out | apply lA | apply lN | apply lD | refine lS ?_ GE101.out) | exact HB.out)) hb); (try clear hb); (try clear hb2); (try clear hk); (try clear hi); (try clear ho0); obtain ⟨Ao28, co28, eo28⟩ := Kd.R_slice HO121.out; subst eo28) | ((with_reducible refine gate_callee (f := 48) rfl ?_); refine goesL_ (some 46) rfl rfl Try.func48 (by kernel_rfl) rfl #[.slice Ao28 t119.length co28, .func (.func 49) #[] #[.pointer (some ⟨gb101, 0, none⟩)]] rfl (by (try simp only [List.map_toArray, List.map_cons, List.map_nil]); first | done | rfl | (simp only [List.length_drop, List.length_take]; rfl)) ?_; (refine (GNextDel.calls (fun k_ => some k_ = (.slice Ao28 t119.length co28 : Value).ownBlock) (.slice Ao28 t119.length co28) t119 (some ad103) c0 l0 t122 w _ ?side1 ?side2 ?side3 ?side4 ?side5 A21.out).mono ?_); (case side1 => repeat (first | (with_reducible first | exact HB.out | apply lA | apply lN | apply lD | refine lS ?_ GE101.out) | exact HB.out)); (case side2 => exact Kd.R_tight rfl HO121.out); (case side3 => exact Kd.C_kept_came k30_heap HR0.out (by repeat (first | (with_reducible first | exact HB.out | apply lA | apply lN | apply lD | refine lS ?_ GE101.out) | exact HB.out)) (fun k_ hs_ => (fun e_ => Kd.R_base HO121.out k_ e_.symm) hs_)); (case side4 => exact HC0.out); (case side5 => (with_reducible repeat (first | refine bN ?_ _ | refine bD ?_ | refine bA ?_ _)); exact BK101.out); rintro e w29 ⟨v123, rfl, ho0, hb, hkp⟩; refine ⟨_, rfl, ?_⟩; replace BK101 := am (blk_kept (by (with_reducible repeat (first | refine bN ?_ _ | refine bD ?_ | refine bA ?_ _)); exact BK101.out) hkp (fun hs_ => (fun e_ => (Kd.R_ne HO121.out BK101.out (by decide)) e_) hs_)); have HO124 := am (Kd.R_mono (ok' := fun k_ => some k_ ≠ (.slice Ao26 y116.length co26 : Value).ownBlock) ho0 (fun k_ hk_ => Or.elim hk_ (fun hs_ => fun e_ => (((HO118.out).1 k_ e_.symm).2) hs_) (fun hn_ => (Kd.fresh' (Kd.R_lt (by (with_reducible repeat (first | apply Ra | apply Rn | apply Rd)); exact HO118.out)) k_ hn_)))); replace HO118 := am (Kd.R_mono (ok' := fun k_ => some k_ ≠ (v123 : Value).ownBlock) (Kd.R_keptB (HO118.out) hkp (fun k_ hk_ hs_ => (hk_.2) hs_)) (fun k_ hk_ => fun e_ => Or.elim (ho0.1 k_ e_.symm) (fun hs_ => hk_.2.1 hs_) (fun hn_ => Nat.not_le.2 hk_.2.2 hn_))); replace HB := am (hb); clear HO121; (try clear hb); (try clear hkp); (try clear ho0)))
      go_ret
      exact ⟨_, by first | rfl | (simp [errW_none, errW_some] <;> rfl) | (simp [*, errW_none, errW_some] <;> rfl), by (with_reducible repeat (first | apply Ra | apply Rn | apply Rd)); exact Kd.R_mono HO124.out (fun _ hk => trivial), by repeat (first | (with_reducible first | exact HB.out | apply lA | apply lN | apply lD | refine lS ?_ GE101.out) | exact HB.out)⟩
     ·rw [if_neg c19] at H
      have c19b0 : (((rd_T30 l0 a1).kind) == 8) = false := beq_eq_false_iff_ne.mpr c19
      have c19b1 : (((rd_T30 l0 a1).kind) != 8) = true := bne_iff_ne.mpr c19
      by_cases c30 : ((rd_T30 l0 a1).kind) = 9
      ·rw [if_pos c30] at H
       have c30b0 : (((rd_T30 l0 a1).kind) == 9) = true := beq_iff_eq.mpr c30
       have c30b1 : (((rd_T30 l0 a1).kind) != 9) = false := bne_eq_false_iff_eq.mpr c30
       clear c30
       replace H := Option.bind_eq_some_iff.mp H
       obtain ⟨t125, A310, H⟩ := H
       replace H : (some t125) = some r := H
       have A31 := am A310
       clear A310
       obtain rfl := Option.some.inj H
       go_enter Try.func19, Try.ntmps19
       go_wp2_with (first | ((with_reducible refine gate_dst (N := 2) rfl ?_); refine box_event ?hg (N := 2) ?hd (cs := #[.slice A0 l0.length c0]) (t := 22) ?hr ?_; (case hd => rfl); (case hg => rfl); (case hr => first | (go_simp; done) | (go_simp; rfl)); intro gb101 hg w32 hbox hb; have BK101 := am (hbox); have GW101 := am ((by rw [hg]; exact (below_size (by repeat (first | (with_reducible first | exact HB.out | apply lA | apply lN | apply lD) | exact HB.out))) : w.heap.size ≤ gb101)); have GE101 := am ((by rw [hg]; exact (below_size (by repeat (first | (with_reducible first | exact HB.out | apply lA | apply lN | apply lD) | exact HB.out))) : w.heap.size ≤ gb101)); replace HB := am (below_step (by repeat (first | (with_reducible first | exact HB.out | apply lA | apply lN | apply lD) | exact HB.out)) hb); clear hb hbox hg; have hcz33_0 : w32.cell? ⟨gb101, 0, none⟩ = some (.slice A0 l0.length c0) := (blk_cell BK101.out 0).trans rfl; have hfz33_0 := blk_frozen BK101.out 0) | ((with_reducible refine gate_callee (f := 42) rfl ?_); refine goesL_ (some 8) rfl rfl Try.func42 (by kernel_rfl) rfl #[.slice A0 l0.length c0, .int .i64 a1] rfl (by (try simp only [List.map_toArray, List.map_cons, List.map_nil]); first | done | rfl | (simp only [List.length_drop, List.length_take]; rfl)) ?_; (with_reducible refine (cfg_within.calls _ _ l0 a1 true _ ?side1 ?side2 A3.out).mono ?_); (case side1 => repeat (first | exact (Kd.C_below HR0.out HB.out) | (with_reducible refine Kd.C_alloc ?_ _) | (with_reducible refine Kd.C_drewN ?_ _) | (with_reducible refine Kd.C_drew ?_))); (case side2 => exact HC0.out); rintro e w' ⟨rfl, ⟨nd, rfl⟩⟩; refine ⟨_, rfl, ?_⟩; have p103 : 0 ≤ (a1 : Int) := of_decide_eq_true (by first | (with_reducible assumption) | assumption); have q103 : a1 < (l0.length : Int) := of_decide_eq_true (by first | (with_reducible assumption) | assumption); obtain ⟨ad103, e103, hx103_0, hx103_1, hx103_2, hx103_3, hx103_4, hx103_5, hx103_6, hx103_7⟩ := at_T30 HR0.out a1 p103 q103; cases e103; replace hx103_0 := (HB.out.cell (blt_ hx103_0)).trans hx103_0; replace hx103_1 := (HB.out.cell (blt_ hx103_1)).trans hx103_1; replace hx103_2 := (HB.out.cell (blt_ hx103_2)).trans hx103_2; replace hx103_3 := (HB.out.cell (blt_ hx103_3)).trans hx103_3; replace hx103_4 := (HB.out.cell (blt_ hx103_4)).trans hx103_4; replace hx103_5 := (HB.out.cell (blt_ hx103_5)).trans hx103_5; replace hx103_6 := (HB.out.cell (blt_ hx103_6)).trans hx103_6; replace hx103_7 := (HB.out.cell (blt_ hx103_7)).trans hx103_7; replace p103 := eq_true p103; replace q103 := eq_true q103) | ((with_reducible refine gate_callee (f := 48) rfl ?_); refine goesL_ (some 46) rfl rfl Try.func48 (by kernel_rfl) rfl #[.slice none 0 0, .func (.func 49) #[] #[.pointer (some ⟨gb101, 0, none⟩)]] rfl (by (try simp only [List.map_toArray, List.map_cons, List.map_nil]); first | done | rfl | (simp only [List.length_drop, List.length_take]; rfl)) ?_; (refine (GNextDel.calls (fun k_ => some k_ = (.slice none 0 0 : Value).ownBlock) (.slice none 0 0) ([] : List Int) (some ad103) c0 l0 t125 w _ ?side1 ?side2 ?side3 ?side4 ?side5 A31.out).mono ?_); (case side1 => repeat (first | (with_reducible first | exact HB.out | apply lA | apply lN | apply lD | refine lS ?_ GE101.out) | exact HB.out)); (case side2 => exact Kd.R_nil _ _ _ _ _); (case side3 => exact Kd.C_kept_came k30_heap HR0.out (by repeat (first | (with_reducible first | exact HB.out | apply lA | apply lN | apply lD | refine lS ?_ GE101.out) | exact HB.out)) (fun k_ hs_ => (fun e_ => by simp [Value.ownBlock] at e_) hs_)); (case side4 => exact HC0.out); (case side5 => (with_reducible repeat (first | refine bN ?_ _ | refine bD ?_ | refine bA ?_ _)); exact BK101.out); rintro e w34 ⟨v126, rfl, ho0, hb, hkp⟩; refine ⟨_, rfl, ?_⟩; replace BK101 := am (blk_kept (by (with_reducible repeat (first | refine bN ?_ _ | refine bD ?_ | refine bA ?_ _)); exact BK101.out) hkp (fun hs_ => (fun e_ => by simp [Value.ownBlock] at e_) hs_)); have HO127 := am (Kd.R_mono (ok' := fun k_ => True) ho0 (fun k_ hk_ => trivial)); replace HB := am (hb); (try clear hb); (try clear hkp); (try clear ho0)))
       go_ret
       exact ⟨_, by first | rfl | (simp [errW_none, errW_some] <;> rfl) | (simp [*, errW_none, errW_some] <;> rfl), by (with_reducible repeat (first | apply Ra | apply Rn | apply Rd)); exact HO127.out, by repeat (first | (with_reducible first | exact HB.out | apply lA | apply lN | apply lD | refine lS ?_ GE101.out) | exact HB.out)⟩
      ·rw [if_neg c30] at H
       have c30b0 : (((rd_T30 l0 a1).kind) == 9) = false := beq_eq_false_iff_ne.mpr c30
       have c30b1 : (((rd_T30 l0 a1).kind) != 9) = true := bne_iff_ne.mpr c30
       obtain ⟨y128, hy128⟩ : ∃ y_ : List Int, y_ = (([wrap64 (a1 + 1)] : List Int)) := ⟨_, rfl⟩
       replace H : ((cfg_sorted_int.f y128).bind fun t131 => ((GNextDel.f t131 l0).bind fun t134 => (some t134))) = some r := by first | (rw [hy128]; with_reducible exact H) | (have H2_ := (Option.bind_some _ _).symm.trans H; rw [hy128]; with_reducible exact H2_) | (have H2_ := (Option.bind_some _ _).symm.trans H; with_reducible exact H2_) | with_reducible exact H | (rw [hy128]; exact H) | exact H
       have Ny128 := am hy128
       clear hy128
       replace H := Option.bind_eq_some_iff.mp H
       obtain ⟨t131, A350, H⟩ := H
       replace H : ((GNextDel.f t131 l0).bind fun t134 => (some t134)) = some r := H
       have A35 := am A350
       clear A350
       replace H := Option.bind_eq_some_iff.mp H
       obtain ⟨t134, A360, H⟩ := H
       replace H : (some t134) = some r := H
       have A36 := am A360
       clear A360
       obtain rfl := Option.some.inj H
       go_enter Try.func19, Try.ntmps19
       go_wp2_with (first | ((with_reducible refine gate_dst (N := 2) rfl ?_); refine box_event ?hg (N := 2) ?hd (cs := #[.slice A0 l0.length c0]) (t := 22) ?hr ?_; (case hd => rfl); (case hg => rfl); (case hr => first | (go_simp; done) | (go_simp; rfl)); intro gb101 hg w37 hbox hb; have BK101 := am (hbox); have GW101 := am ((by rw [hg]; exact (below_size (by repeat (first | (with_reducible first | exact HB.out | apply lA | apply lN | apply lD) | exact HB.out))) : w.heap.size ≤ gb101)); have GE101 := am ((by rw [hg]; exact (below_size (by repeat (first | (with_reducible first | exact HB.out | apply lA | apply lN | apply lD) | exact HB.out))) : w.heap.size ≤ gb101)); replace HB := am (below_step (by repeat (first | (with_reducible first | exact HB.out | apply lA | apply lN | apply lD) | exact HB.out)) hb); clear hb hbox hg; have hcz38_0 : w37.cell? ⟨gb101, 0, none⟩ = some (.slice A0 l0.length c0) := (blk_cell BK101.out 0).trans rfl; have hfz38_0 := blk_frozen BK101.out 0) | ((with_reducible refine gate_callee (f := 42) rfl ?_); refine goesL_ (some 8) rfl rfl Try.func42 (by kernel_rfl) rfl #[.slice A0 l0.length c0, .int .i64 a1] rfl (by (try simp only [List.map_toArray, List.map_cons, List.map_nil]); first | done | rfl | (simp only [List.length_drop, List.length_take]; rfl)) ?_; (with_reducible refine (cfg_within.calls _ _ l0 a1 true _ ?side1 ?side2 A3.out).mono ?_); (case side1 => repeat (first | exact (Kd.C_below HR0.out HB.out) | (with_reducible refine Kd.C_alloc ?_ _) | (with_reducible refine Kd.C_drewN ?_ _) | (with_reducible refine Kd.C_drew ?_))); (case side2 => exact HC0.out); rintro e w' ⟨rfl, ⟨nd, rfl⟩⟩; refine ⟨_, rfl, ?_⟩; have p103 : 0 ≤ (a1 : Int) := of_decide_eq_true (by first | (with_reducible assumption) | assumption); have q103 : a1 < (l0.length : Int) := of_decide_eq_true (by first | (with_reducible assumption) | assumption); obtain ⟨ad103, e103, hx103_0, hx103_1, hx103_2, hx103_3, hx103_4, hx103_5, hx103_6, hx103_7⟩ := at_T30 HR0.out a1 p103 q103; cases e103; replace hx103_0 := (HB.out.cell (blt_ hx103_0)).trans hx103_0; replace hx103_1 := (HB.out.cell (blt_ hx103_1)).trans hx103_1; replace hx103_2 := (HB.out.cell (blt_ hx103_2)).trans hx103_2; replace hx103_3 := (HB.out.cell (blt_ hx103_3)).trans hx103_3; replace hx103_4 := (HB.out.cell (blt_ hx103_4)).trans hx103_4; replace hx103_5 := (HB.out.cell (blt_ hx103_5)).trans hx103_5; replace hx103_6 := (HB.out.cell (blt_ hx103_6)).trans hx103_6; replace hx103_7 := (HB.out.cell (blt_ hx103_7)).trans hx103_7; replace p103 := eq_true p103; replace q103 := eq_true q103) | ((with_reducible refine gate_dst (N := 17) rfl ?_); refine Kd.R_lit (Kd.int .i64) _ 3 ?hg (N := 17) ?hd (xs := ([wrap64 (a1 + 1)] : List Int)) (inner := [.int .i64 (wrap64 (a1 + 1))]) (ok := fun _ => True) (okp := fun _ => True) ?hr ?hp (fun _ hk => hk) trivial (Below.refl _ _) (Nat.le_refl _) (by simp) ?_; (case hd => rfl); (case hg => rfl); (case hr => first | (go_simp; done) | (go_simp; rfl)); (case hp => exact (Reps.one (show Kd.M (Kd.int .i64) _ _ _ (wrap64 (a1 + 1)) [.int .i64 (wrap64 (a1 + 1))] from rfl) (Reps.none _ _))); intro v129 w39 ho40 hb hg_ hnew_; clear hg_ hnew_; (first | rw [← Ny128.out] at ho40 | (simp only [Int.reduceToNat] at ho40; rw [← Ny128.out] at ho40)); have HO130 := am (Kd.R_lower ho40 (below_size (by repeat (first | (with_reducible first | exact HB.out | apply lA | apply lN | apply lD | refine lS ?_ GE101.out) | exact HB.out)))); replace BK101 := am (blk_below (g := gb101) (o := .cells #[.slice (some ad103) l0.length c0] 22 (0, 0)) (by (with_reducible repeat (first | refine bN ?_ _ | refine bD ?_ | refine bA ?_ _)); exact BK101.out) hb); replace HB := am (below_step (by repeat (first | (with_reducible first | exact HB.out | apply lA | apply lN | apply lD | refine lS ?_ GE101.out) | exact HB.out)) hb); clear hb ho40; obtain ⟨Ao41, co41, eo41⟩ := Kd.R_slice HO130.out; subst eo41) | ((with_reducible refine gate_callee (f := 47) rfl ?_); refine goesL_ (some 18) rfl rfl Try.func47 (by kernel_rfl) rfl #[.slice Ao41 y128.length co41] rfl (by (try simp only [List.map_toArray, List.map_cons, List.map_nil]); first | done | rfl | (simp only [List.length_drop, List.length_take]; rfl)) ?_; (with_reducible refine (cfg_sorted_int.calls _ _ y128 t131 _ ?side1 ?side2 A35.out).mono ?_); (case side1 => repeat (first | exact (Kd.R_reads' HO130.out).2.2 | (with_reducible refine Kd.C_alloc ?_ _) | (with_reducible refine Kd.C_drewN ?_ _) | (with_reducible refine Kd.C_drew ?_))); (case side2 => exact (Kd.R_reads' HO130.out).2.1); rintro e w42 ⟨v132, rfl, ho0, hb⟩; refine ⟨_, rfl, ?_⟩; have HO133 := am (Kd.R_lower (Kd.R_new' ho0 (Kd.R_lt (by (with_reducible repeat (first | apply Ra | apply Rn | apply Rd)); exact HO130.out))) (below_size (by repeat (first | (with_reducible first | exact HB.out | apply lA | apply lN | apply lD | refine lS ?_ GE101.out) | exact HB.out)))); replace HO130 := am (Kd.R_elder' (by (with_reducible repeat (first | apply Ra | apply Rn | apply Rd)); exact HO130.out) (Kd.R_base ho0) hb); replace BK101 := am (blk_below (g := gb101) (o := .cells #[.slice (some ad103) l0.length c0] 22 (0, 0)) (by (with_reducible repeat (first | refine bN ?_ _ | refine bD ?_ | refine bA ?_ _)); exact BK101.out) hb); replace HB := am (below_step (by repeat (first | (with_reducible first | exact HB.out | apply lA | apply lN | apply lD | refine lS ?_ GE101.out) | exact HB.out)) hb); (try clear hb); (try clear hb2); (try clear hk); (try clear hi); (try clear ho0); obtain ⟨Ao43, co43, eo43⟩ := Kd.R_slice HO133.out; subst eo43) | ((with_reducible refine gate_callee (f := 48) rfl ?_); refine goesL_ (some 46) rfl rfl Try.func48 (by kernel_rfl) rfl #[.slice Ao43 t131.length co43, .func (.func 49) #[] #[.pointer (some ⟨gb101, 0, none⟩)]] rfl (by (try simp only [List.map_toArray, List.map_cons, List.map_nil]); first | done | rfl | (simp only [List.length_drop, List.length_take]; rfl)) ?_; (refine (GNextDel.calls (fun k_ => some k_ = (.slice Ao43 t131.length co43 : Value).ownBlock) (.slice Ao43 t131.length co43) t131 (some ad103) c0 l0 t134 w _ ?side1 ?side2 ?side3 ?side4 ?side5 A36.out).mono ?_); (case side1 => repeat (first | (with_reducible first | exact HB.out | apply lA | apply lN | apply lD | refine lS ?_ GE101.out) | exact HB.out)); (case side2 => exact Kd.R_tight rfl HO133.out); (case side3 => exact Kd.C_kept_came k30_heap HR0.out (by repeat (first | (with_reducible first | exact HB.out | apply lA | apply lN | apply lD | refine lS ?_ GE101.out) | exact HB.out)) (fun k_ hs_ => (fun e_ => Kd.R_base HO133.out k_ e_.symm) hs_)); (case side4 => exact HC0.out); (case side5 => (with_reducible repeat (first | refine bN ?_ _ | refine bD ?_ | refine bA ?_ _)); exact BK101.out); rintro e w44 ⟨v135, rfl, ho0, hb, hkp⟩; refine ⟨_, rfl, ?_⟩; replace BK101 := am (blk_kept (by (with_reducible repeat (first | refine bN ?_ _ | refine bD ?_ | refine bA ?_ _)); exact BK101.out) hkp (fun hs_ => (fun e_ => (Kd.R_ne HO133.out BK101.out (by decide)) e_) hs_)); have HO136 := am (Kd.R_mono (ok' := fun k_ => some k_ ≠ (.slice Ao41 y128.length co41 : Value).ownBlock) ho0 (fun k_ hk_ => Or.elim hk_ (fun hs_ => fun e_ => (((HO130.out).1 k_ e_.symm).2) hs_) (fun hn_ => (Kd.fresh' (Kd.R_lt (by (with_reducible repeat (first | apply Ra | apply Rn | apply Rd)); exact HO130.out)) k_ hn_)))); replace HO130 := am (Kd.R_mono (ok' := fun k_ => some k_ ≠ (v135 : Value).ownBlock) (Kd.R_keptB (HO130.out) hkp (fun k_ hk_ hs_ => (hk_.2) hs_)) (fun k_ hk_ => fun e_ => Or.elim (ho0.1 k_ e_.symm) (fun hs_ => hk_.2.1 hs_) (fun hn_ => Nat.not_le.2 hk_.2.2 hn_))); replace HB := am (hb); clear HO133; (try clear hb); (try clear hkp); (try clear ho0)))
       go_ret
       exact ⟨_, by first | rfl | (simp [errW_none, errW_some] <;> rfl) | (simp [*, errW_none, errW_some] <;> rfl), by (with_reducible repeat (first | apply Ra | apply Rn | apply Rd)); exact Kd.R_mono HO136.out (fun _ hk => trivial), by repeat (first | (with_reducible first | exact HB.out | apply lA | apply lN | apply lD | refine lS ?_ GE101.out) | exact HB.out)⟩
   ·rw [if_neg c6] at H
    exact absurd H (by simp)
  ·rw [if_neg c5] at H
   exact absurd H (by simp)
 ·replace c4 := Bool.eq_false_iff.mpr c4
  subst c4
  have H1 : (some ([] : List Int)) = some r := by rw [if_neg (show ¬ (false = true) by decide)] at H; exact H
  clear H
  have H := H1
  clear H1
  obtain rfl := Option.some.inj H
  go_enter Try.func19, Try.ntmps19
  go_wp2_with (first | ((with_reducible refine gate_dst (N := 2) rfl ?_); refine box_event ?hg (N := 2) ?hd (cs := #[.slice A0 l0.length c0]) (t := 22) ?hr ?_; (case hd => rfl); (case hg => rfl); (case hr => first | (go_simp; done) | (go_simp; rfl)); intro gb101 hg w45 hbox hb; have BK101 := am (hbox); have GW101 := am ((by rw [hg]; exact (below_size (by repeat (first | (with_reducible first | exact HB.out | apply lA | apply lN | apply lD) | exact HB.out))) : w.heap.size ≤ gb101)); have GE101 := am ((by rw [hg]; exact (below_size (by repeat (first | (with_reducible first | exact HB.out | apply lA | apply lN | apply lD) | exact HB.out))) : w.heap.size ≤ gb101)); replace HB := am (below_step (by repeat (first | (with_reducible first | exact HB.out | apply lA | apply lN | apply lD) | exact HB.out)) hb); clear hb hbox hg; have hcz46_0 : w45.cell? ⟨gb101, 0, none⟩ = some (.slice A0 l0.length c0) := (blk_cell BK101.out 0).trans rfl; have hfz46_0 := blk_frozen BK101.out 0) | ((with_reducible refine gate_callee (f := 42) rfl ?_); refine goesL_ (some 8) rfl rfl Try.func42 (by kernel_rfl) rfl #[.slice A0 l0.length c0, .int .i64 a1] rfl (by (try simp only [List.map_toArray, List.map_cons, List.map_nil]); first | done | rfl | (simp only [List.length_drop, List.length_take]; rfl)) ?_; (with_reducible refine (cfg_within.calls _ _ l0 a1 false _ ?side1 ?side2 A3.out).mono ?_); (case side1 => repeat (first | exact (Kd.C_below HR0.out HB.out) | (with_reducible refine Kd.C_alloc ?_ _) | (with_reducible refine Kd.C_drewN ?_ _) | (with_reducible refine Kd.C_drew ?_))); (case side2 => exact HC0.out); rintro e w' ⟨rfl, ⟨nd, rfl⟩⟩; refine ⟨_, rfl, ?_⟩))
  go_ret
  exact ⟨_, by first | rfl | (simp [errW_none, errW_some] <;> rfl) | (simp [*, errW_none, errW_some] <;> rfl), by first | exact Kd.R_nil _ _ _ _ _ | exact Kd.N_nil _ _ _ _ _ | exact Kd.V_nil _ _ _ _ _ | exact Kd.Q_nil _ _ _ _ _ | exact Kd.S_nil _ _ _ _ _, by repeat (first | (with_reducible first | exact HB.out | apply lA | apply lN | apply lD | refine lS ?_ GE101.out) | exact HB.out)⟩
end Go.Proofs.Ytnepgcbgkhikkaa.H
namespace Go.Proofs.Ytnepgcbgkhikkaa.H
open Go.RowKit Go.Proofs.YtnepgcbgkhikkaaW.PrintWords Go.Proofs.YtnepgcbgkhikkaaW.PrintLast Go.Proofs.YtnepgcbgkhikkaaW.PrintMore
/-- what a way may go on through: a statement that doesn't define the name -/
def keepF (s : List Stmt) (x : ByteArray) : OnFn := fun m => if 0 ≤ m then if m < (s.length : Int) then (cfg_defines.f (rd_T30 s m).kind (rd_T30 s m).x (rd_T30 s m).y (rd_T30 s m).z (rd_T30 s m).op (rd_T30 s m).n (rd_T30 s m).a (rd_T30 s m).b x).map (fun b => !b) else none else none
abbrev SeesS (w : World) (gl gx : Nat) (ad : Addr) (n c : Nat) (x : ByteArray) (y : Stmt) (j : Nat) (w' : World) : Prop :=
  Below w.heap.size w w' ∧ w'.cell? ⟨gl, 0, none⟩ = some (.slice (some ad) n c) ∧ w'.cell? ⟨gx, 0, none⟩ = some (.string x) ∧ w'.cell? (ad.add (j * 8)) = some (.int .i64 y.kind) ∧ w'.cell? ⟨(ad.add (j * 8)).block, (ad.add (j * 8)).off + 1, none⟩ = some (.string y.x) ∧ w'.cell? ⟨(ad.add (j * 8)).block, (ad.add (j * 8)).off + 2, none⟩ = some (.string y.y) ∧ w'.cell? ⟨(ad.add (j * 8)).block, (ad.add (j * 8)).off + 3, none⟩ = some (.string y.z) ∧ w'.cell? ⟨(ad.add (j * 8)).block, (ad.add (j * 8)).off + 4, none⟩ = some (.string y.op) ∧ w'.cell? ⟨(ad.add (j * 8)).block, (ad.add (j * 8)).off + 5, none⟩ = some (.int .i64 y.n) ∧ w'.cell? ⟨(ad.add (j * 8)).block, (ad.add (j * 8)).off + 6, none⟩ = some (.int .i64 y.a) ∧ w'.cell? ⟨(ad.add (j * 8)).block, (ad.add (j * 8)).off + 7, none⟩ = some (.int .i64 y.b)
set_option maxHeartbeats 8000000 in
set_option maxRecDepth 100000 in
theorem keepReach {w : World} {gl gx : Nat} {A : Option Addr} {c : Nat} {s : List Stmt} {x : ByteArray} (hl : w.heap[gl]? = some (.cells #[.slice A s.length c] 22 (0, 0))) (hx : w.heap[gx]? = some (.cells #[.string x] 9 (0, 0)))
    (hr : Kd.C k30 w A s.length s) (m : Int) (b : Bool) (h : keepF s x m = some b) :
    Calls Try.prog 51 #[.int .i64 m, .pointer (some ⟨gl, 0, none⟩), .pointer (some ⟨gx, 0, none⟩)] w fun e w' => e = .returned (.bool b) ∧ Below w.heap.size w w' := by
  unfold keepF at h
  split at h
  case isFalse => cases h
  rename_i h0
  split at h
  case isFalse => cases h
  rename_i h1
  obtain ⟨d, hd, hb⟩ := Option.map_eq_some_iff.1 h
  obtain ⟨j, rfl⟩ : ∃ j : Nat, m = (j : Int) := ⟨m.toNat, (Int.toNat_of_nonneg h0).symm⟩
  have hj : j < s.length := by omega
  have hy : s[j]? = some (s[j]'hj) := List.getElem?_eq_getElem hj
  have hrd : rd_T30 s (j : Int) = s[j]'hj := by unfold rd_T30; rw [Int.toNat_natCast, List.getD_eq_getElem?_getD, hy]; rfl
  rw [hrd] at hd
  generalize s[j]'hj = y at hd hy
  have hu := Try.underlying30
  have hb0 := (blk_cell hl 0).trans rfl
  have hb1 := (blk_cell hx 0).trans rfl
  obtain ⟨ad, e1, hx0, hx1, hx2, hx3, hx4, hx5, hx6, hx7⟩ := at_Stmt hr hy
  cases e1
  have HD := Aside0.mk hd
  have HBB := Aside0.mk hb
  clear hd hb hr hy h hl hx hrd h0 hj
  have hbd : Below w.heap.size w w.drew := below_drew (Below.refl _ _)
  have KS : Aside0 (∀ w', Below w.heap.size w w' → SeesS w gl gx ad s.length c x y j w') := ⟨fun w' hb => ⟨hb, Below.old hb hb0, Below.old hb hb1, Below.old hb hx0, Below.old hb hx1, Below.old hb hx2, Below.old hb hx3, Below.old hb hx4, Below.old hb hx5, Below.old hb hx6, Below.old hb hx7⟩⟩
  go_enter Try.func51, Try.ntmps51
  go_wp2
  go_region_held3 (fun w' => SeesS w gl gx ad s.length c x y j w') (first | exact KS.out _ (below_drew (Below.refl _ _)) | exact KS.out _ (Below.then (by assumption) (by assumption))) ((go_at_call 45; go_must (refine (cfg_defines.calls _ _ _ _ _ _ _ _ _ _ _ HD.out).mono ?_); rintro e w2 ⟨rfl, hb⟩))
  have HB := Aside0.mk (Below.then hbd hb)
  clear hb hbd KS
  go_wp2
  go_ret
  exact ⟨by rw [HBB.out]; rfl, HB.out⟩
set_option maxHeartbeats 8000000 in
set_option maxRecDepth 100000 in
theorem keepLive {w : World} {gl gx : Nat} {A : Option Addr} {c : Nat} {s : List Stmt} {x : ByteArray} (hl : w.heap[gl]? = some (.cells #[.slice A s.length c] 22 (0, 0))) (hx : w.heap[gx]? = some (.cells #[.string x] 9 (0, 0)))
    (hr : Kd.C k30 w A s.length s) (m : Int) (b : Bool) (h : keepF s x m = some b) :
    Calls Try.prog 44 #[.int .i64 m, .pointer (some ⟨gl, 0, none⟩), .pointer (some ⟨gx, 0, none⟩)] w fun e w' => e = .returned (.bool b) ∧ Below w.heap.size w w' := by
  unfold keepF at h
  split at h
  case isFalse => cases h
  rename_i h0
  split at h
  case isFalse => cases h
  rename_i h1
  obtain ⟨d, hd, hb⟩ := Option.map_eq_some_iff.1 h
  obtain ⟨j, rfl⟩ : ∃ j : Nat, m = (j : Int) := ⟨m.toNat, (Int.toNat_of_nonneg h0).symm⟩
  have hj : j < s.length := by omega
  have hy : s[j]? = some (s[j]'hj) := List.getElem?_eq_getElem hj
  have hrd : rd_T30 s (j : Int) = s[j]'hj := by unfold rd_T30; rw [Int.toNat_natCast, List.getD_eq_getElem?_getD, hy]; rfl
  rw [hrd] at hd
  generalize s[j]'hj = y at hd hy
  have hu := Try.underlying30
  have hb0 := (blk_cell hl 0).trans rfl
  have hb1 := (blk_cell hx 0).trans rfl
  obtain ⟨ad, e1, hx0, hx1, hx2, hx3, hx4, hx5, hx6, hx7⟩ := at_Stmt hr hy
  cases e1
  have HD := Aside0.mk hd
  have HBB := Aside0.mk hb
  clear hd hb hr hy h hl hx hrd h0 hj
  have hbd : Below w.heap.size w w.drew := below_drew (Below.refl _ _)
  have KS : Aside0 (∀ w', Below w.heap.size w w' → SeesS w gl gx ad s.length c x y j w') := ⟨fun w' hb => ⟨hb, Below.old hb hb0, Below.old hb hb1, Below.old hb hx0, Below.old hb hx1, Below.old hb hx2, Below.old hb hx3, Below.old hb hx4, Below.old hb hx5, Below.old hb hx6, Below.old hb hx7⟩⟩
  go_enter Try.func44, Try.ntmps44
  go_wp2
  go_region_held3 (fun w' => SeesS w gl gx ad s.length c x y j w') (first | exact KS.out _ (below_drew (Below.refl _ _)) | exact KS.out _ (Below.then (by assumption) (by assumption))) ((go_at_call 45; go_must (refine (cfg_defines.calls _ _ _ _ _ _ _ _ _ _ _ HD.out).mono ?_); rintro e w2 ⟨rfl, hb⟩))
  have HB := Aside0.mk (Below.then hbd hb)
  clear hb hbd KS
  go_wp2
  go_ret
  exact ⟨by rw [HBB.out]; rfl, HB.out⟩
section
variable {P : Program} {ops : Array Oper} {rest : List Oper} {o : Oper} {a : Act} {Q : Exit → Act → World → Prop} {α : Type}
/-- a whole row appended to a queue -/
theorem Kd.Q_append_rows (d : Kd α) {Rr : α → List Value → Prop} {w0 W : World} (base : Nat) (hgd : o.guard = none) (s x : Operand) (t e : TypeId) (z : Value) (bytes : Nat)
    (ho : o.op = .call { callee := .builtin .append, args := #[s, x], argTypes := #[t, t] })
    (ht : P.underlying t = some (.slice e)) (hinfo : (P.info? e).map (fun i => (i.zero, i.size, i.bytes)) = some (some z, d.sz, bytes)) (hz : z.cells.size = d.sz) (hs0 : 0 < d.sz) (hb0 : 0 < bytes)
    (v : Value) (xs ys : List α) (A : Option Addr) (m c : Nat) (ok okp : Nat → Prop) (hs : a.eval s = v) (hx : a.eval x = .slice A m c)
    (HO : d.Q e W base ok v xs) (HR : ReadsRow Rr d.sz W A m ys) (hKM : ∀ x cs, Rr x cs → d.M W base okp x cs) (hokp : ∀ k, okp k → ok k ∧ some k ≠ v.ownBlock) (hfresh : ∀ k, W.heap.size ≤ k → ok k)
    (HB : Below base w0 W) (hbase : base ≤ W.heap.size) (hl : (xs.length + m) * bytes ≤ 140737488355328)
    (h : ∀ v1 w1, d.Q e w1 base ok v1 (xs ++ ys) → Below base w0 w1 → W.grownBy w1 v.ownBlock → (v1.ownBlock = v.ownBlock ∨ ∃ b, v1.ownBlock = some b ∧ W.heap.size ≤ b) → wpList P ops Q rest (a.put o.dst v1) w1) :
    wpList P ops Q (o :: rest) a W := by
  obtain ⟨i0, hi, hzz⟩ := Option.map_eq_some_iff.1 hinfo
  simp only [Prod.mk.injEq] at hzz
  obtain ⟨hz0, hz1, hz2⟩ := hzz
  have hm : ys.length = m := HR.1
  have hlen : xs.length + m ≤ 140737488355328 := Nat.le_trans (Nat.le_mul_of_pos_right _ hb0) hl
  have HO' := HO
  obtain ⟨hok, inner, hown, hr⟩ := HO
  have hrun : ∃ v1 w1, (Builtin.append_ #[t, t] o.type #[v, .slice A m c]).run P W = .ok v1 w1 ∧ d.Q e w1 base ok v1 (xs ++ ys) ∧ W.grownBy w1 v.ownBlock ∧ (v1.ownBlock = v.ownBlock ∨ ∃ b, v1.ownBlock = some b ∧ W.heap.size ≤ b) := by
    rcases Nat.eq_zero_or_pos m with h0 | h0
    · subst h0
      obtain rfl : ys = [] := List.eq_nil_of_length_eq_zero hm
      obtain ⟨A', c', rfl, hle, -⟩ := Kd.Q_reads HO'
      refine ⟨_, W, ?_, by rw [List.append_nil]; exact HO', World.grownBy.refl W _, .inl rfl⟩
      rcases A with _ | ad <;> rcases A' with _ | ad' <;> simp [Builtin.append_, run_underlying ht, sizeOf, typeInfo, hi, Builtin.lenOf, Builtin.firstCells, hle, storeCells, loadCells, loadCellsFrom]
    · obtain ⟨ad, rfl, -⟩ := HR.2.2 h0
      obtain ⟨news, hnr, hnc⟩ := ReadsRow.inner_ HR
      have hnM : Reps (d.M W base okp) d.sz ys news := hnr.imp_ (fun p c hp => hKM p c hp)
      have hone : ∀ u ∈ news, u.oneCell' = true := by
        intro u hu
        obtain ⟨q, hq, rfl⟩ := List.mem_iff_getElem.1 hu
        have hql : q / d.sz < ys.length := by
          rw [Nat.div_lt_iff_lt_mul hs0]
          rw [← hnM.1]
          exact hq
        have hc := hnM.2 (q / d.sz) _ (List.getElem?_eq_getElem hql)
        refine d.K_one (d.K_of_M hc) _ ?_
        rw [List.mem_iff_getElem?]
        refine ⟨q % d.sz, ?_⟩
        rw [List.getElem?_take, if_pos (Nat.mod_lt _ hs0), List.getElem?_drop, Nat.mul_comm, Nat.div_add_mod, List.getElem?_eq_getElem hq]
      obtain ⟨v1, w1, hrun, h2, hg, hat'⟩ := q_append (P := P) W base t o.type e i0 z d.sz bytes ht hi hz0 hz1 hz2 hz hs0 v xs.length inner hown ad m c news (by rw [hnM.1, hm]) hnc hone h0 (by simp only [maxLen]; omega) hl hbase
      have hne : ∀ k, some k ≠ v.ownBlock → k < W.heap.size → some k ≠ v1.ownBlock := by
        intro k hk hlt
        rcases hat' with hat | ⟨b, hb, hle⟩
        · rw [hat]; exact hk
        · rw [hb]
          intro he
          injection he with he
          omega
      have step : ∀ {q : α} {c : List Value} {o : Nat → Prop}, d.M W base o q c → (∀ k, o k → ok k ∧ some k ≠ v.ownBlock) → d.M w1 base (fun k => ok k ∧ some k ≠ v1.ownBlock) q c := by
        intro q c o hq ho
        have h1 := d.M_move (w1 := w1) (fun k hk => hg.block k hk.2.2.1 (ho k hk.1).2) (d.M_bound hq)
        exact d.M_mono (fun k hk => ⟨(ho k hk.1).1, hne k (ho k hk.1).2 hk.2.2.1⟩) h1
      refine ⟨v1, w1, hrun, ⟨fun k hk => ?_, inner ++ news, by rw [List.length_append, hm]; exact h2, Kd.reps_append (hr.imp_ (fun _ _ hq => step hq (fun _ hk => hk))) (hnM.imp_ (fun _ _ hq => step hq hokp))⟩, hg, hat'⟩
      rcases hat' with hat | ⟨b, hb, hle⟩
      · exact hok k (hat ▸ hk)
      · rw [hb] at hk
        injection hk with hk
        exact hfresh k (by omega)
  obtain ⟨v1, w1, hr1, h1, h3, h4⟩ := hrun
  refine wpList_plain hgd fun K hK => ?_
  unfold Oper.wp execOp
  simp only [ho, resolve, invoke, builtin, Sem.run_bind, Sem.run_pure, Result.andThen_ok, List.map_toArray, List.map_cons, List.map_nil, hs, hx, hr1]
  exact hK _ _ (h v1 w1 h1 (HB.grown h3 hbase (fun k hk => Kd.Q_base HO' k hk)) h3 h4)
end
end Go.Proofs.Ytnepgcbgkhikkaa.H
namespace Go.Proofs.Ytnepgcbgkhikkaa.H
open Go.RowKit Go.Proofs.YtnepgcbgkhikkaaW.PrintWords Go.Proofs.YtnepgcbgkhikkaaW.PrintLast Go.Proofs.YtnepgcbgkhikkaaW.PrintMore
attribute [local go_sem] max2_int min2_int max_two min_two max_three min_three max_four min_four
def cfg_ways.l0 : Nat → List (Stmt) → OnFn → List Bool → List Int → Option (List Bool)
 | 0, _, _, _, _ => none
 | k + 1, x0, x2, x7, x8 => if (x8.length : Int) > 0 then (if 0 < (x8.length : Int) then (if 1 ≤ (x8.length : Int) then ((some (x8.drop (1 : Int).toNat : List Int)).bind fun y108 => (if 0 ≤ (rd x8 0) then (if (rd x8 0) < (x7.length : Int) then (if rdOf false x7 (rd x8 0) = true then (cfg_ways.l0 k x0 x2 x7 y108) else ((some (x7.set ((rd x8 0) : Int).toNat true : List Bool)).bind fun y112 => ((OnCall.f x2 (rd x8 0)).bind fun t113 => (if t113 = true then ((cfg_Next.f x0 (rd x8 0)).bind fun t114 => (if y108.length + t114.length < 17592186044416 then (cfg_ways.l0 k x0 x2 y112 (y108 ++ t114)) else (none))) else (cfg_ways.l0 k x0 x2 y112 y108))))) else (none)) else (none))) else (none)) else (none)) else (some x7)
def cfg_ways.f (k : Nat) (l0 : List (Stmt)) (l1 : List Int) (a2 : OnFn) : Option (List Bool) := if 0 ≤ (l0.length : Int) then (if ((l0.length : Int) : Int).toNat ≤ 281474976710656 then ((slices_Clone_int_int.f l1).bind fun t104 => (cfg_ways.l0 k l0 a2 (List.replicate ((l0.length : Int) : Int).toNat false) t104)) else (none)) else (none)
theorem cfg_ways.mono_l : ∀ k, (∀ y0 y1 y2 y3, LeO (cfg_ways.l0 k y0 y1 y2 y3) (cfg_ways.l0 (k + 1) y0 y1 y2 y3))
 | 0 => fun _ _ _ _ r h => by simp [cfg_ways.l0] at h
 | k + 1 => by
  have ih0 := cfg_ways.mono_l k
  ·intro y0 y1 y2 y3
   unfold cfg_ways.l0
   repeat' first
   | (with_reducible exact ih0 _ _ _ _)
   | (with_reducible exact LeO.refl _)
   | (with_reducible exact LeO.none _)
   | (with_reducible refine LeO.ite ?_ ?_)
   | (with_reducible refine LeO.bind ?_ (fun _ => ?_))
   | exact ih0 _ _ _ _
   | exact LeO.none _
   | refine LeO.ite ?_ ?_
   | refine LeO.bind ?_ (fun _ => ?_)
theorem cfg_ways.mono : ∀ a0 a1 a2 k, LeO (cfg_ways.f k a0 a1 a2) (cfg_ways.f (k + 1) a0 a1 a2) := by
 intro a0 a1 a2 k
 have ih0 := cfg_ways.mono_l k
 unfold cfg_ways.f
 repeat' first
   | (with_reducible exact ih0 _ _ _ _)
   | (with_reducible exact LeO.refl _)
   | (with_reducible exact LeO.none _)
   | (with_reducible refine LeO.ite ?_ ?_)
   | (with_reducible refine LeO.bind ?_ (fun _ => ?_))
   | exact ih0 _ _ _ _
   | exact LeO.none _
   | refine LeO.ite ?_ ?_
   | refine LeO.bind ?_ (fun _ => ?_)
set_option maxHeartbeats 8000000 in
set_option maxRecDepth 100000 in
theorem cfg_ways.calls (k : Nat) (A0 : Option Addr) (c0 : Nat) (l0 : List (Stmt)) (A1 : Option Addr) (c1 : Nat) (l1 : List Int) (g2_ : Nat) (lb2_ : Array Value) (a2 : OnFn) (eg2_ : ∀ args w, (callFunc g2_ args).run Try.prog w = .ok (.enter g2_ args) w) (r : List Bool) (w : World) (hon2_ : ∀ (x : Int) (b : Bool) (W : World), Below w.heap.size w W → OnCall.f a2 x = some b → Calls Try.prog g2_ (#[.int .i64 x] ++ lb2_) W fun e w' => e = .returned (.bool b) ∧ Below W.heap.size W w') (hr0 : Kd.C k30 w A0 l0.length l0) (hc0 : l0.length ≤ c0) (hr1 : Kd.C (Kd.int .i64) w A1 l1.length l1) (hc1 : l1.length ≤ c1) (h : cfg_ways.f k l0 l1 a2 = some r) :
  Calls Try.prog 43 #[.slice A0 l0.length c0, .slice A1 l1.length c1, .func (.func g2_) #[] lb2_] w fun e w' => ∃ v0_ : Value, e = .returned (v0_) ∧ Kd.R Kd.bool 4 w' w.heap.size (fun _ => True) v0_ r ∧ Below w.heap.size w w' := by
 have HR0 := am hr0
 have HC0 := am hc0
 clear hr0 hc0
 have HR1 := am hr1
 have HC1 := am hc1
 clear hr1 hc1
 have HB := am (Below.refl w.heap.size w)
 have H : (if 0 ≤ (l0.length : Int) then (if ((l0.length : Int) : Int).toNat ≤ 281474976710656 then ((slices_Clone_int_int.f l1).bind fun t104 => (cfg_ways.l0 k l0 a2 (List.replicate ((l0.length : Int) : Int).toNat false) t104)) else (none)) else (none)) = some r := h
 clear h
 by_cases c4 : 0 ≤ (l0.length : Int)
 ·rw [if_pos c4] at H
  have c4b0 := eq_true c4
  have c4b1 : decide (0 ≤ (l0.length : Int)) = true := decide_eq_true c4
  clear c4
  by_cases c5 : ((l0.length : Int) : Int).toNat ≤ 281474976710656
  ·rw [if_pos c5] at H
   have c5b0 := eq_true c5
   have c5b1 : decide (((l0.length : Int) : Int).toNat ≤ 281474976710656) = true := decide_eq_true c5
   clear c5
   obtain ⟨y101, hy101⟩ : ∃ y_ : List Bool, y_ = (List.replicate ((l0.length : Int) : Int).toNat false) := ⟨_, rfl⟩
   replace H : ((slices_Clone_int_int.f l1).bind fun t104 => (cfg_ways.l0 k l0 a2 y101 t104)) = some r := by first | (rw [hy101]; with_reducible exact H) | (have H2_ := (Option.bind_some _ _).symm.trans H; rw [hy101]; with_reducible exact H2_) | (have H2_ := (Option.bind_some _ _).symm.trans H; with_reducible exact H2_) | with_reducible exact H | (rw [hy101]; exact H) | exact H
   have Ny101 := am hy101
   clear hy101
   replace H := Option.bind_eq_some_iff.mp H
   obtain ⟨t104, A60, H⟩ := H
   replace H : (cfg_ways.l0 k l0 a2 y101 t104) = some r := H
   have A6 := am A60
   clear A60
   have H' := am H
   clear H
   go_enter Try.func43, Try.ntmps43
   go_wp2_with (first | ((with_reducible refine gate_dst (N := 12) rfl ?_); refine Kd.R_make Kd.bool _ 4 rfl (N := 12) rfl 41 _ _ rfl (l0.length : Int) rfl rfl Try.underlying41 (.bool false) 1 info4 rfl (by decide) (by omega) false (ok := fun _ => True) (okp := fun _ => True) rfl (fun _ hk => hk) trivial (of_decide_eq_true (by first | (with_reducible assumption) | assumption)) (Nat.le_trans (Nat.mul_le_mul_right _ (of_decide_eq_true (by first | (with_reducible assumption) | assumption) : (l0.length : Int).toNat ≤ 281474976710656)) (by omega)) (Below.refl _ _) (Nat.le_refl _) ?_; intro v102 w7 ho8 hb hg_ hnew_; clear hg_ hnew_; (first | rw [← Ny101.out] at ho8 | (simp only [Int.reduceToNat] at ho8; rw [← Ny101.out] at ho8)); have HO103 := am (Kd.R_lower ho8 (below_size (by repeat (first | (with_reducible first | exact HB.out | apply lA | apply lN | apply lD) | exact HB.out)))); replace HB := am (below_step (by repeat (first | (with_reducible first | exact HB.out | apply lA | apply lN | apply lD) | exact HB.out)) hb); clear hb ho8) | ((with_reducible refine gate_callee (f := 61) rfl ?_); refine goesL_ (some 14) rfl rfl Try.func61 (by kernel_rfl) rfl #[.slice A1 l1.length c1] rfl (by (try simp only [List.map_toArray, List.map_cons, List.map_nil]); first | done | rfl | (simp only [List.length_drop, List.length_take]; rfl)) ?_; (with_reducible refine (slices_Clone_int_int.calls _ _ l1 t104 _ ?side1 ?side2 A6.out).mono ?_); (case side1 => repeat (first | exact (Kd.C_below HR1.out HB.out) | (with_reducible refine Kd.C_alloc ?_ _) | (with_reducible refine Kd.C_drewN ?_ _) | (with_reducible refine Kd.C_drew ?_))); (case side2 => exact HC1.out); rintro e w9 ⟨v105, rfl, ho0, hb⟩; refine ⟨_, rfl, ?_⟩; replace HO103 := am (Kd.R_below (by (with_reducible repeat (first | apply Ra | apply Rn | apply Rd)); exact HO103.out) hb); have HO106 := am (Kd.R_lower ho0 (below_size (by repeat (first | (with_reducible first | exact HB.out | apply lA | apply lN | apply lD) | exact HB.out)))); replace HB := am (below_step (by repeat (first | (with_reducible first | exact HB.out | apply lA | apply lN | apply lD) | exact HB.out)) hb); (try clear hb); (try clear hb2); (try clear hk); (try clear hi); (try clear ho0)))
   go_loopg [8] k (fun kq v8 w' => ∃ (x7_1 : List Bool) (x8_1 : List Int), Aside0 (cfg_ways.l0 kq l0 a2 x7_1 x8_1 = some r) ∧ Aside0 (kq ≤ k) ∧ Aside0 (Kd.R Kd.bool 4 w' w.heap.size (fun _ => True) v102 x7_1) ∧ Aside0 (Kd.Q (Kd.int .i64) 3 w' w.heap.size (fun _ => True) v8 x8_1) ∧ Aside0 (Below w.heap.size w w'))
   case atStart => exact ⟨(y101), (t104), H', ⟨Nat.le_refl _⟩, ⟨by (with_reducible repeat (first | apply Ra | apply Rn | apply Rd)); exact HO103.out⟩, ⟨Kd.Q_of_R (by (with_reducible repeat (first | apply Ra | apply Rn | apply Rd)); exact HO106.out)⟩, ⟨by repeat (first | (with_reducible first | exact HB.out | apply lA | apply lN | apply lD) | exact HB.out)⟩⟩
   case round =>
    clear H'
    try clear c1
    try clear p2
    try clear c4
    try clear c4b0
    try clear c4b1
    try clear c5
    try clear c5b0
    try clear c5b1
    try clear c6
    obtain ⟨x7_1, x8_1, HA, HK1, HO_7, HO_8, HB⟩ := hrel
    cases gk with
    | zero => exact absurd HA.out (by simp [cfg_ways.l0])
    | succ k1 =>
     have H := HA.out
     clear HA
     simp only [cfg_ways.l0] at H
     by_cases c10 : (x8_1.length : Int) > 0
     ·rw [if_pos c10] at H
      have c10b0 : decide (0 < (x8_1.length : Int)) = true := decide_eq_true c10
      have c10b1 : decide (0 < x8_1.length) = true := decide_eq_true (by omega)
      clear c10
      by_cases c11 : 0 < (x8_1.length : Int)
      ·rw [if_pos c11] at H
       have c11b0 : decide (0 < (x8_1.length : Int)) = true := decide_eq_true c11
       have c11b1 : decide (0 < x8_1.length) = true := decide_eq_true (by omega)
       clear c11
       by_cases c12 : 1 ≤ (x8_1.length : Int)
       ·rw [if_pos c12] at H
        have c12b0 := eq_true c12
        have c12b1 : decide (1 ≤ (x8_1.length : Int)) = true := decide_eq_true c12
        clear c12
        obtain ⟨y108, hy108⟩ : ∃ y_ : List Int, y_ = (x8_1.drop (1 : Int).toNat) := ⟨_, rfl⟩
        replace H : (if 0 ≤ (rd x8_1 0) then (if (rd x8_1 0) < (x7_1.length : Int) then (if rdOf false x7_1 (rd x8_1 0) = true then (cfg_ways.l0 k1 l0 a2 x7_1 y108) else ((some (x7_1.set ((rd x8_1 0) : Int).toNat true : List Bool)).bind fun y112 => ((OnCall.f a2 (rd x8_1 0)).bind fun t113 => (if t113 = true then ((cfg_Next.f l0 (rd x8_1 0)).bind fun t114 => (if y108.length + t114.length < 17592186044416 then (cfg_ways.l0 k1 l0 a2 y112 (y108 ++ t114)) else (none))) else (cfg_ways.l0 k1 l0 a2 y112 y108))))) else (none)) else (none)) = some r := by first | (rw [hy108]; with_reducible exact H) | (have H2_ := (Option.bind_some _ _).symm.trans H; rw [hy108]; with_reducible exact H2_) | (have H2_ := (Option.bind_some _ _).symm.trans H; with_reducible exact H2_) | with_reducible exact H | (rw [hy108]; exact H) | exact H
        have Ny108 := am hy108
        clear hy108
        by_cases c13 : 0 ≤ (rd x8_1 0)
        ·rw [if_pos c13] at H
         have c13b0 : decide (0 ≤ (rd x8_1 0)) = true := decide_eq_true c13
         clear c13
         by_cases c14 : (rd x8_1 0) < (x7_1.length : Int)
         ·rw [if_pos c14] at H
          have c14b0 : decide ((rd x8_1 0) < (x7_1.length : Int)) = true := decide_eq_true c14
          clear c14
          obtain ⟨bq15, hbq15⟩ : ∃ b_ : Bool, b_ = (rdOf false x7_1 (rd x8_1 0)) := ⟨_, rfl⟩
          replace H : (if bq15 = true then (cfg_ways.l0 k1 l0 a2 x7_1 y108) else ((some (x7_1.set ((rd x8_1 0) : Int).toNat true : List Bool)).bind fun y112 => ((OnCall.f a2 (rd x8_1 0)).bind fun t113 => (if t113 = true then ((cfg_Next.f l0 (rd x8_1 0)).bind fun t114 => (if y108.length + t114.length < 17592186044416 then (cfg_ways.l0 k1 l0 a2 y112 (y108 ++ t114)) else (none))) else (cfg_ways.l0 k1 l0 a2 y112 y108))))) = some r := by rw [← hbq15] at H; exact H
          have Nbq15 := am hbq15
          clear hbq15
          by_cases c16 : bq15 = true
          ·subst c16
           have H1 : (cfg_ways.l0 k1 l0 a2 x7_1 y108) = some r := by rw [if_pos rfl] at H; exact H
           clear H
           have H := H1
           clear H1
           have H' := am H
           clear H
           obtain ⟨Ao17, co17, eo17, _⟩ := Kd.Q_slice HO_8.out
           subst eo17
           have p107 : 0 ≤ (0 : Int) := (by omega)
           have q107 : 0 < (x8_1.length : Int) := of_decide_eq_true (by first | (with_reducible assumption) | assumption)
           obtain ⟨ad107, e107, hx107_0⟩ := Kd.at_int (Kd.Q_reads' HO_8.out).2.2 0 p107 q107
           cases e107
           have qi107 : (0 < x8_1.length) = True := eq_true (by omega)
           (try rw [show ((0 : Int)).toNat = 0 from rfl] at hx107_0)
           (try rw [Addr.add_zero'] at hx107_0)
           replace p107 := eq_true p107
           replace q107 := eq_true q107
           have q18 : (1 : Int) ≤ ((x8_1.length : Int) : Int) := of_decide_eq_true (by first | (with_reducible assumption) | assumption)
           obtain ⟨i018, hi018, _, hsz18, _⟩ := info_parts info3
           have hcut18 := cut_from (P := Try.prog) 25 3 .i64 Try.underlying25 hi018 1 hsz18 (some ad107) x8_1.length co17 1 (by omega) q18
           have hr18 := Kd.Q_drop (k := (1 : Int).toNat) HO_8.out (by omega)
           obtain ⟨A18, hA18⟩ : ∃ A1, A1 = (if co17 = (1 : Int).toNat then (some ad107) else ((some ad107) : Option Addr).map (·.add ((1 : Int).toNat * 1))) := ⟨_, rfl⟩
           obtain ⟨c18, hc18⟩ : ∃ c1, c1 = co17 - (1 : Int).toNat := ⟨_, rfl⟩
           have hy18 : y108.length = x8_1.length - (1 : Int).toNat := (by rw [Ny108.out, List.length_drop])
           rw [← Ny108.out] at hr18
           rw [← hy18, ← hA18, ← hc18] at hcut18
           replace hr18 : Kd.Q (Kd.int .i64) 3 wr w.heap.size (fun _ => True) (.slice A18 y108.length c18) y108 := (by rw [hA18, hc18, hy18]; exact hr18)
           have HE18 : Aside0 ((Value.slice A18 y108.length c18).ownBlock = (.slice (some ad107) x8_1.length co17 : Value).ownBlock) := ⟨by rw [hA18]; split <;> (cases ((some ad107) : Option Addr) <;> rfl)⟩
           clear hy18 hi018 hsz18 HO_8 hA18 hc18
           have HO110 := am hr18
           clear hr18
           replace q18 := eq_true q18
           obtain ⟨Ao19, co19, eo19⟩ := Kd.R_slice HO_7.out
           subst eo19
           have p111 : 0 ≤ ((rd x8_1 0) : Int) := of_decide_eq_true (by first | (with_reducible assumption) | assumption)
           have q111 : (rd x8_1 0) < (x7_1.length : Int) := of_decide_eq_true (by first | (with_reducible assumption) | assumption)
           obtain ⟨ad111, e111, hx111_0⟩ := Kd.at_bool (Kd.R_reads' HO_7.out).2.2 (rd x8_1 0) p111 q111
           (try rw [← Nbq15.out] at hx111_0)
           cases e111
           replace p111 := eq_true p111
           replace q111 := eq_true q111
           go_wp2
           go_roundg k1
           case measure => have := HK1.out; omega
           case rel => exact ⟨(x7_1), (y108), H', ⟨by have := HK1.out; omega⟩, ⟨by (with_reducible repeat (first | apply Ra | apply Rn | apply Rd)); exact HO_7.out⟩, ⟨by (with_reducible repeat (first | apply Kd.Q_alloc | apply Kd.Q_drewN | apply Kd.Q_drew)); exact HO110.out⟩, ⟨by repeat (first | (with_reducible first | exact HB.out | apply lA | apply lN | apply lD) | exact HB.out)⟩⟩
          ·replace c16 := Bool.eq_false_iff.mpr c16
           subst c16
           have H1 : ((some (x7_1.set ((rd x8_1 0) : Int).toNat true : List Bool)).bind fun y112 => ((OnCall.f a2 (rd x8_1 0)).bind fun t113 => (if t113 = true then ((cfg_Next.f l0 (rd x8_1 0)).bind fun t114 => (if y108.length + t114.length < 17592186044416 then (cfg_ways.l0 k1 l0 a2 y112 (y108 ++ t114)) else (none))) else (cfg_ways.l0 k1 l0 a2 y112 y108)))) = some r := by rw [if_neg (show ¬ (false = true) by decide)] at H; exact H
           clear H
           have H := H1
           clear H1
           obtain ⟨y112, hy112⟩ : ∃ y_ : List Bool, y_ = (x7_1.set ((rd x8_1 0) : Int).toNat true) := ⟨_, rfl⟩
           replace H : ((OnCall.f a2 (rd x8_1 0)).bind fun t113 => (if t113 = true then ((cfg_Next.f l0 (rd x8_1 0)).bind fun t114 => (if y108.length + t114.length < 17592186044416 then (cfg_ways.l0 k1 l0 a2 y112 (y108 ++ t114)) else (none))) else (cfg_ways.l0 k1 l0 a2 y112 y108))) = some r := by first | (rw [hy112]; with_reducible exact H) | (have H2_ := (Option.bind_some _ _).symm.trans H; rw [hy112]; with_reducible exact H2_) | (have H2_ := (Option.bind_some _ _).symm.trans H; with_reducible exact H2_) | with_reducible exact H | (rw [hy112]; exact H) | exact H
           have Ny112 := am hy112
           clear hy112
           replace H := Option.bind_eq_some_iff.mp H
           obtain ⟨t113, A210, H⟩ := H
           replace H : (if t113 = true then ((cfg_Next.f l0 (rd x8_1 0)).bind fun t114 => (if y108.length + t114.length < 17592186044416 then (cfg_ways.l0 k1 l0 a2 y112 (y108 ++ t114)) else (none))) else (cfg_ways.l0 k1 l0 a2 y112 y108)) = some r := H
           have A21 := am A210
           clear A210
           by_cases c22 : t113 = true
           ·subst c22
            have H1 : ((cfg_Next.f l0 (rd x8_1 0)).bind fun t114 => (if y108.length + t114.length < 17592186044416 then (cfg_ways.l0 k1 l0 a2 y112 (y108 ++ t114)) else (none))) = some r := by rw [if_pos rfl] at H; exact H
            clear H
            have H := H1
            clear H1
            replace H := Option.bind_eq_some_iff.mp H
            obtain ⟨t114, A230, H⟩ := H
            replace H : (if y108.length + t114.length < 17592186044416 then (cfg_ways.l0 k1 l0 a2 y112 (y108 ++ t114)) else (none)) = some r := H
            have A23 := am A230
            clear A230
            by_cases c24 : y108.length + t114.length < 17592186044416
            ·rw [if_pos c24] at H
             have LMc24 := am c24
             clear c24
             obtain ⟨y117, hy117⟩ : ∃ y_ : List Int, y_ = (y108 ++ t114) := ⟨_, rfl⟩
             replace H : (cfg_ways.l0 k1 l0 a2 y112 y117) = some r := by first | (rw [hy117]; with_reducible exact H) | (have H2_ := (Option.bind_some _ _).symm.trans H; rw [hy117]; with_reducible exact H2_) | (have H2_ := (Option.bind_some _ _).symm.trans H; with_reducible exact H2_) | with_reducible exact H | (rw [hy117]; exact H) | exact H
             have Ny117 := am hy117
             clear hy117
             have H' := am H
             clear H
             obtain ⟨Ao25, co25, eo25, _⟩ := Kd.Q_slice HO_8.out
             subst eo25
             have p107 : 0 ≤ (0 : Int) := (by omega)
             have q107 : 0 < (x8_1.length : Int) := of_decide_eq_true (by first | (with_reducible assumption) | assumption)
             obtain ⟨ad107, e107, hx107_0⟩ := Kd.at_int (Kd.Q_reads' HO_8.out).2.2 0 p107 q107
             cases e107
             have qi107 : (0 < x8_1.length) = True := eq_true (by omega)
             (try rw [show ((0 : Int)).toNat = 0 from rfl] at hx107_0)
             (try rw [Addr.add_zero'] at hx107_0)
             replace p107 := eq_true p107
             replace q107 := eq_true q107
             have q26 : (1 : Int) ≤ ((x8_1.length : Int) : Int) := of_decide_eq_true (by first | (with_reducible assumption) | assumption)
             obtain ⟨i026, hi026, _, hsz26, _⟩ := info_parts info3
             have hcut26 := cut_from (P := Try.prog) 25 3 .i64 Try.underlying25 hi026 1 hsz26 (some ad107) x8_1.length co25 1 (by omega) q26
             have hr26 := Kd.Q_drop (k := (1 : Int).toNat) HO_8.out (by omega)
             obtain ⟨A26, hA26⟩ : ∃ A1, A1 = (if co25 = (1 : Int).toNat then (some ad107) else ((some ad107) : Option Addr).map (·.add ((1 : Int).toNat * 1))) := ⟨_, rfl⟩
             obtain ⟨c26, hc26⟩ : ∃ c1, c1 = co25 - (1 : Int).toNat := ⟨_, rfl⟩
             have hy26 : y108.length = x8_1.length - (1 : Int).toNat := (by rw [Ny108.out, List.length_drop])
             rw [← Ny108.out] at hr26
             rw [← hy26, ← hA26, ← hc26] at hcut26
             replace hr26 : Kd.Q (Kd.int .i64) 3 wr w.heap.size (fun _ => True) (.slice A26 y108.length c26) y108 := (by rw [hA26, hc26, hy26]; exact hr26)
             have HE26 : Aside0 ((Value.slice A26 y108.length c26).ownBlock = (.slice (some ad107) x8_1.length co25 : Value).ownBlock) := ⟨by rw [hA26]; split <;> (cases ((some ad107) : Option Addr) <;> rfl)⟩
             clear hy26 hi026 hsz26 HO_8 hA26 hc26
             have HO110 := am hr26
             clear hr26
             replace q26 := eq_true q26
             obtain ⟨Ao27, co27, eo27⟩ := Kd.R_slice HO_7.out
             subst eo27
             have p111 : 0 ≤ ((rd x8_1 0) : Int) := of_decide_eq_true (by first | (with_reducible assumption) | assumption)
             have q111 : (rd x8_1 0) < (x7_1.length : Int) := of_decide_eq_true (by first | (with_reducible assumption) | assumption)
             obtain ⟨ad111, e111, hx111_0⟩ := Kd.at_bool (Kd.R_reads' HO_7.out).2.2 (rd x8_1 0) p111 q111
             (try rw [← Nbq15.out] at hx111_0)
             cases e111
             replace p111 := eq_true p111
             replace q111 := eq_true q111
             have p20 : 0 ≤ ((rd x8_1 0) : Int) := of_decide_eq_true (by first | (with_reducible assumption) | assumption)
             have q20 : ((rd x8_1 0) : Int) < ((x7_1.length : Int) : Int) := of_decide_eq_true (by first | (with_reducible assumption) | assumption)
             obtain ⟨go20, co20, eo20, gb20, gl20, cl20, HG20⟩ := Kd.R_form HO_7.out (by omega)
             (first | cases eo20 | (injection eo20 with ea_ en_ ec_; (first | subst ea_ | (injection ea_ with ea_; subst ea_)); subst ec_; clear en_))
             have GB20 := am gb20
             have GG20 := am HG20
             clear gb20 gl20 HG20
             (first | simp only [add_plain] at hx111_0 | skip)
             obtain ⟨hx20_0, hf20_0⟩ := Kd.R_celln false HO_7.out ((rd x8_1 0) : Int) p20 q20
             replace p20 := eq_true p20
             replace q20 := eq_true q20
             have HP28 := Kd.R_putg HO_7.out ((rd x8_1 0) : Int) true
             go_wp2_with (first | ((with_reducible refine gate_store (t := 4) (p := 29) rfl ?_); refine store_event (t := 4) (p := 29) (v := ?vo_w29) (w1 := (wr.setCell ⟨go20, ((rd x8_1 0) : Int).toNat, none⟩ (.bool true))) ?hg ?ho ?hn ?hr ?_; (case ho => rfl); (case hg => rfl); (case hn => rfl); (case hr => first | (go_simp; done) | (go_simp; rfl)); intro w29 hw; have hg : wr.grownBy w29 (some go20) := (by rw [hw]; exact HP28.2); have hp_ : Kd.R Kd.bool 4 w29 w.heap.size (fun _ => True) (.slice (some ⟨go20, 0, none⟩) x7_1.length co27) y112 := (by rw [hw, Ny112.out]; exact HP28.1); clear HP28; replace HO110 := am (Kd.Q_over' (v := (.slice (some ⟨go20, 0, none⟩) x7_1.length co27)) (by (with_reducible repeat (first | apply Kd.Q_alloc | apply Kd.Q_drewN | apply Kd.Q_drew)); exact HO110.out) (Kd.R_typed HO_7.out) (by decide) hg); replace HO_7 := am (hp_); replace HB := am ((by rw [hw]; exact below_set (HB.out) GB20.out : Below w.heap.size w w29)); clear hg hw hp_) | (go_at_fn g2_; (with_reducible refine (hon2_ (rd x8_1 0) true _ (by repeat (first | (with_reducible first | exact HB.out | apply lA | apply lN | apply lD) | exact HB.out)) A21.out).mono ?_); rintro e w30 ⟨rfl, hb⟩; replace HO_7 := am (Kd.R_below (by (with_reducible repeat (first | apply Ra | apply Rn | apply Rd)); exact HO_7.out) hb); replace HO110 := am (Kd.Q_below (by (with_reducible repeat (first | apply Kd.Q_alloc | apply Kd.Q_drewN | apply Kd.Q_drew)); exact HO110.out) hb); replace HB := am (below_step (by repeat (first | (with_reducible first | exact HB.out | apply lA | apply lN | apply lD) | exact HB.out)) hb); (try clear hb); (try clear hb2); (try clear hk); (try clear hi)) | ((with_reducible refine gate_callee (f := 19) rfl ?_); refine goesL_ (some 36) rfl rfl Try.func19 (by kernel_rfl) rfl #[.slice A0 l0.length c0, .int .i64 (rd x8_1 0)] rfl (by (try simp only [List.map_toArray, List.map_cons, List.map_nil]); first | done | rfl | (simp only [List.length_drop, List.length_take]; rfl)) ?_; (with_reducible refine (cfg_Next.calls _ _ l0 (rd x8_1 0) t114 _ ?side1 ?side2 A23.out).mono ?_); (case side1 => repeat (first | exact (Kd.C_below HR0.out HB.out) | (with_reducible refine Kd.C_alloc ?_ _) | (with_reducible refine Kd.C_drewN ?_ _) | (with_reducible refine Kd.C_drew ?_))); (case side2 => exact HC0.out); rintro e w31 ⟨v115, rfl, ho0, hb⟩; refine ⟨_, rfl, ?_⟩; replace HO_7 := am (Kd.R_below (by (with_reducible repeat (first | apply Ra | apply Rn | apply Rd)); exact HO_7.out) hb); have HO116 := am (Kd.R_lower (Kd.R_new' ho0 (Kd.Q_lt (by (with_reducible repeat (first | apply Kd.Q_alloc | apply Kd.Q_drewN | apply Kd.Q_drew)); exact HO110.out))) (below_size (by repeat (first | (with_reducible first | exact HB.out | apply lA | apply lN | apply lD) | exact HB.out)))); replace HO110 := am (Kd.Q_elder' (by (with_reducible repeat (first | apply Kd.Q_alloc | apply Kd.Q_drewN | apply Kd.Q_drew)); exact HO110.out) (Kd.R_base ho0) hb); replace HB := am (below_step (by repeat (first | (with_reducible first | exact HB.out | apply lA | apply lN | apply lD) | exact HB.out)) hb); (try clear hb); (try clear hb2); (try clear hk); (try clear hi); (try clear ho0); obtain ⟨Ao33, co33, eo33⟩ := Kd.R_slice HO116.out; subst eo33) | ((with_reducible refine gate_builtin (b := .append) (xs := #[.tmp 33, .tmp 36]) rfl ?_); at_builtin; refine Kd.Q_append_rows (Kd.int .i64) (w0 := w) w.heap.size rfl (.tmp 33) (.tmp 36) 25 3 (.int .i64 0) 8 rfl Try.underlying25 info3 rfl (by decide) (by omega) (.slice A26 y108.length c26) y108 t114 _ _ _ (fun k_ => some k_ ≠ (.slice Ao33 t114.length co33 : Value).ownBlock) (fun _ => False) rfl rfl ?aO ?aR (fun _ _ h => h) (fun _ h => h.elim) ?aF ?aB ?aS ?aL ?_; (case aR => repeat (first | exact (Kd.R_reads' HO116.out).2.2 | (with_reducible refine Kd.C_alloc ?_ _) | (with_reducible refine Kd.C_drewN ?_ _) | (with_reducible refine Kd.C_drew ?_))); (case aB => exact (by repeat (first | (with_reducible first | exact HB.out | apply lA | apply lN | apply lD) | exact HB.out))); (case aF => exact (fun k_ hk => Kd.fresh' (Kd.R_lt (by (with_reducible repeat (first | apply Ra | apply Rn | apply Rd)); exact HO116.out)) k_ hk)); (case aO => exact (by (with_reducible repeat (first | apply Kd.Q_alloc | apply Kd.Q_drewN | apply Kd.Q_drew)); exact Kd.Q_mono HO110.out (fun _ hk => hk.2))); (case aS => exact (below_size (by repeat (first | (with_reducible first | exact HB.out | apply lA | apply lN | apply lD) | exact HB.out)))); (case aL => have := LMc24.out; omega); intro v118 w32 ho hb hg hat; rw [← Ny117.out] at ho; replace HO_7 := am (Kd.R_over' (by (with_reducible repeat (first | apply Ra | apply Rn | apply Rd)); exact HO_7.out) (Kd.Q_typed (by (with_reducible repeat (first | apply Kd.Q_alloc | apply Kd.Q_drewN | apply Kd.Q_drew)); exact HO110.out)) (by decide) hg); replace HO116 := am (Kd.R_after (ok := (fun _ => True)) (by (with_reducible repeat (first | apply Ra | apply Rn | apply Rd)); exact HO116.out) hg hat); replace HB := am (hb); have HO119 := am (ho); clear HO110; clear ho hb hg hat))
             go_roundg k1
             case measure => have := HK1.out; omega
             case rel => exact ⟨(y112), (y117), H', ⟨by have := HK1.out; omega⟩, ⟨by (with_reducible repeat (first | apply Ra | apply Rn | apply Rd)); exact HO_7.out⟩, ⟨by (with_reducible repeat (first | apply Kd.Q_alloc | apply Kd.Q_drewN | apply Kd.Q_drew)); exact Kd.Q_mono HO119.out (fun _ hk => trivial)⟩, ⟨by repeat (first | (with_reducible first | exact HB.out | apply lA | apply lN | apply lD) | exact HB.out)⟩⟩
            ·rw [if_neg c24] at H
             exact absurd H (by simp)
           ·replace c22 := Bool.eq_false_iff.mpr c22
            subst c22
            have H1 : (cfg_ways.l0 k1 l0 a2 y112 y108) = some r := by rw [if_neg (show ¬ (false = true) by decide)] at H; exact H
            clear H
            have H := H1
            clear H1
            have H' := am H
            clear H
            obtain ⟨Ao34, co34, eo34, _⟩ := Kd.Q_slice HO_8.out
            subst eo34
            have p107 : 0 ≤ (0 : Int) := (by omega)
            have q107 : 0 < (x8_1.length : Int) := of_decide_eq_true (by first | (with_reducible assumption) | assumption)
            obtain ⟨ad107, e107, hx107_0⟩ := Kd.at_int (Kd.Q_reads' HO_8.out).2.2 0 p107 q107
            cases e107
            have qi107 : (0 < x8_1.length) = True := eq_true (by omega)
            (try rw [show ((0 : Int)).toNat = 0 from rfl] at hx107_0)
            (try rw [Addr.add_zero'] at hx107_0)
            replace p107 := eq_true p107
            replace q107 := eq_true q107
            have q35 : (1 : Int) ≤ ((x8_1.length : Int) : Int) := of_decide_eq_true (by first | (with_reducible assumption) | assumption)
            obtain ⟨i035, hi035, _, hsz35, _⟩ := info_parts info3
            have hcut35 := cut_from (P := Try.prog) 25 3 .i64 Try.underlying25 hi035 1 hsz35 (some ad107) x8_1.length co34 1 (by omega) q35
            have hr35 := Kd.Q_drop (k := (1 : Int).toNat) HO_8.out (by omega)
            obtain ⟨A35, hA35⟩ : ∃ A1, A1 = (if co34 = (1 : Int).toNat then (some ad107) else ((some ad107) : Option Addr).map (·.add ((1 : Int).toNat * 1))) := ⟨_, rfl⟩
            obtain ⟨c35, hc35⟩ : ∃ c1, c1 = co34 - (1 : Int).toNat := ⟨_, rfl⟩
            have hy35 : y108.length = x8_1.length - (1 : Int).toNat := (by rw [Ny108.out, List.length_drop])
            rw [← Ny108.out] at hr35
            rw [← hy35, ← hA35, ← hc35] at hcut35
            replace hr35 : Kd.Q (Kd.int .i64) 3 wr w.heap.size (fun _ => True) (.slice A35 y108.length c35) y108 := (by rw [hA35, hc35, hy35]; exact hr35)
            have HE35 : Aside0 ((Value.slice A35 y108.length c35).ownBlock = (.slice (some ad107) x8_1.length co34 : Value).ownBlock) := ⟨by rw [hA35]; split <;> (cases ((some ad107) : Option Addr) <;> rfl)⟩
            clear hy35 hi035 hsz35 HO_8 hA35 hc35
            have HO110 := am hr35
            clear hr35
            replace q35 := eq_true q35
            obtain ⟨Ao36, co36, eo36⟩ := Kd.R_slice HO_7.out
            subst eo36
            have p111 : 0 ≤ ((rd x8_1 0) : Int) := of_decide_eq_true (by first | (with_reducible assumption) | assumption)
            have q111 : (rd x8_1 0) < (x7_1.length : Int) := of_decide_eq_true (by first | (with_reducible assumption) | assumption)
            obtain ⟨ad111, e111, hx111_0⟩ := Kd.at_bool (Kd.R_reads' HO_7.out).2.2 (rd x8_1 0) p111 q111
            (try rw [← Nbq15.out] at hx111_0)
            cases e111
            replace p111 := eq_true p111
            replace q111 := eq_true q111
            have p20 : 0 ≤ ((rd x8_1 0) : Int) := of_decide_eq_true (by first | (with_reducible assumption) | assumption)
            have q20 : ((rd x8_1 0) : Int) < ((x7_1.length : Int) : Int) := of_decide_eq_true (by first | (with_reducible assumption) | assumption)
            obtain ⟨go20, co20, eo20, gb20, gl20, cl20, HG20⟩ := Kd.R_form HO_7.out (by omega)
            (first | cases eo20 | (injection eo20 with ea_ en_ ec_; (first | subst ea_ | (injection ea_ with ea_; subst ea_)); subst ec_; clear en_))
            have GB20 := am gb20
            have GG20 := am HG20
            clear gb20 gl20 HG20
            (first | simp only [add_plain] at hx111_0 | skip)
            obtain ⟨hx20_0, hf20_0⟩ := Kd.R_celln false HO_7.out ((rd x8_1 0) : Int) p20 q20
            replace p20 := eq_true p20
            replace q20 := eq_true q20
            have HP37 := Kd.R_putg HO_7.out ((rd x8_1 0) : Int) true
            go_wp2_with (first | ((with_reducible refine gate_store (t := 4) (p := 29) rfl ?_); refine store_event (t := 4) (p := 29) (v := ?vo_w38) (w1 := (wr.setCell ⟨go20, ((rd x8_1 0) : Int).toNat, none⟩ (.bool true))) ?hg ?ho ?hn ?hr ?_; (case ho => rfl); (case hg => rfl); (case hn => rfl); (case hr => first | (go_simp; done) | (go_simp; rfl)); intro w38 hw; have hg : wr.grownBy w38 (some go20) := (by rw [hw]; exact HP37.2); have hp_ : Kd.R Kd.bool 4 w38 w.heap.size (fun _ => True) (.slice (some ⟨go20, 0, none⟩) x7_1.length co36) y112 := (by rw [hw, Ny112.out]; exact HP37.1); clear HP37; replace HO110 := am (Kd.Q_over' (v := (.slice (some ⟨go20, 0, none⟩) x7_1.length co36)) (by (with_reducible repeat (first | apply Kd.Q_alloc | apply Kd.Q_drewN | apply Kd.Q_drew)); exact HO110.out) (Kd.R_typed HO_7.out) (by decide) hg); replace HO_7 := am (hp_); replace HB := am ((by rw [hw]; exact below_set (HB.out) GB20.out : Below w.heap.size w w38)); clear hg hw hp_) | (go_at_fn g2_; (with_reducible refine (hon2_ (rd x8_1 0) false _ (by repeat (first | (with_reducible first | exact HB.out | apply lA | apply lN | apply lD) | exact HB.out)) A21.out).mono ?_); rintro e w39 ⟨rfl, hb⟩; replace HO_7 := am (Kd.R_below (by (with_reducible repeat (first | apply Ra | apply Rn | apply Rd)); exact HO_7.out) hb); replace HO110 := am (Kd.Q_below (by (with_reducible repeat (first | apply Kd.Q_alloc | apply Kd.Q_drewN | apply Kd.Q_drew)); exact HO110.out) hb); replace HB := am (below_step (by repeat (first | (with_reducible first | exact HB.out | apply lA | apply lN | apply lD) | exact HB.out)) hb); (try clear hb); (try clear hb2); (try clear hk); (try clear hi)))
            go_roundg k1
            case measure => have := HK1.out; omega
            case rel => exact ⟨(y112), (y108), H', ⟨by have := HK1.out; omega⟩, ⟨by (with_reducible repeat (first | apply Ra | apply Rn | apply Rd)); exact HO_7.out⟩, ⟨by (with_reducible repeat (first | apply Kd.Q_alloc | apply Kd.Q_drewN | apply Kd.Q_drew)); exact HO110.out⟩, ⟨by repeat (first | (with_reducible first | exact HB.out | apply lA | apply lN | apply lD) | exact HB.out)⟩⟩
         ·rw [if_neg c14] at H
          exact absurd H (by simp)
        ·rw [if_neg c13] at H
         exact absurd H (by simp)
       ·rw [if_neg c12] at H
        exact absurd H (by simp)
      ·rw [if_neg c11] at H
       exact absurd H (by simp)
     ·rw [if_neg c10] at H
      have c10b0 : decide (0 < (x8_1.length : Int)) = false := decide_eq_false c10
      have c10b1 : decide (0 < x8_1.length) = false := decide_eq_false (by omega)
      clear c10
      obtain rfl := Option.some.inj H
      obtain ⟨Ao40, co40, eo40, _⟩ := Kd.Q_slice HO_8.out
      subst eo40
      go_wp2
      go_ret
      exact ⟨_, by first | rfl | (simp [errW_none, errW_some] <;> rfl) | (simp [*, errW_none, errW_some] <;> rfl), by (with_reducible repeat (first | apply Ra | apply Rn | apply Rd)); exact HO_7.out, by repeat (first | (with_reducible first | exact HB.out | apply lA | apply lN | apply lD) | exact HB.out)⟩
  ·rw [if_neg c5] at H
   exact absurd H (by simp)
 ·rw [if_neg c4] at H
  exact absurd H (by simp)
end Go.Proofs.Ytnepgcbgkhikkaa.H
namespace Go.Proofs.Ytnepgcbgkhikkaa.H
open Go.RowKit Go.Proofs.YtnepgcbgkhikkaaW.PrintWords Go.Proofs.YtnepgcbgkhikkaaW.PrintLast Go.Proofs.YtnepgcbgkhikkaaW.PrintMore
def GReachWays.f (k : Nat) (l0 : List Stmt) (l1 : List Int) (s : List Stmt) (x : ByteArray) : Option (List Bool) := cfg_ways.f k l0 l1 (keepF s x)
theorem GReachWays.mono : ∀ a0 a1 a2 a3 k, LeO (GReachWays.f k a0 a1 a2 a3) (GReachWays.f (k + 1) a0 a1 a2 a3) := fun a0 a1 a2 a3 k => cfg_ways.mono a0 a1 (keepF a2 a3) k
theorem GReachWays.calls (k : Nat) (A0 : Option Addr) (c0 : Nat) (l0 : List Stmt) (A1 : Option Addr) (c1 : Nat) (l1 : List Int) (A2 : Option Addr) (c2 : Nat) (l2 : List Stmt) (a3 : ByteArray) (r : List Bool) (w : World) {gl gx : Nat}
    (hr0 : Kd.C k30 w A0 l0.length l0) (hc0 : l0.length ≤ c0) (hr1 : Kd.C (Kd.int .i64) w A1 l1.length l1) (hc1 : l1.length ≤ c1) (hr2 : Kd.C k30 w A2 l2.length l2) (hc2 : l2.length ≤ c2)
    (hbl : w.heap[gl]? = some (.cells #[.slice A2 l2.length c2] 22 (0, 0))) (hbx : w.heap[gx]? = some (.cells #[.string a3] 9 (0, 0))) (h : GReachWays.f k l0 l1 l2 a3 = some r) :
    Calls Try.prog 43 #[.slice A0 l0.length c0, .slice A1 l1.length c1, .func (.func 51) #[] #[.pointer (some ⟨gl, 0, none⟩), .pointer (some ⟨gx, 0, none⟩)]] w fun e w' => ∃ v0_ : Value, e = .returned v0_ ∧ Kd.R Kd.bool 4 w' w.heap.size (fun _ => True) v0_ r ∧ Below w.heap.size w w' := by
  refine (cfg_ways.calls k A0 c0 l0 A1 c1 l1 51 _ (keepF l2 a3) (enters_of Try.func51 (by kernel_rfl) rfl) r w ?_ hr0 hc0 hr1 hc1 h)
  intro x b W hB hx
  exact keepReach (blk_below hbl hB) (blk_below hbx hB) (Kd.C_below hr2 hB) x b hx
end Go.Proofs.Ytnepgcbgkhikkaa.H
namespace Go.Proofs.Ytnepgcbgkhikkaa.H
open Go.RowKit Go.Proofs.YtnepgcbgkhikkaaW.PrintWords Go.Proofs.YtnepgcbgkhikkaaW.PrintLast Go.Proofs.YtnepgcbgkhikkaaW.PrintMore
attribute [local go_sem] max2_int min2_int max_two min_two max_three min_three max_four min_four
def cfg_Reaches.j0 : Nat → Int → Int → Bool → List (Stmt) → ByteArray → Option (Bool)
 | 0, _, _, _, _, _ => none
 | k + 1, x1, x3, x27, x102000, x103000 => if x27 = true then (some false) else ((cfg_Next.f x102000 x3).bind fun t107 => ((GReachWays.f k x102000 t107 x102000 x103000).bind fun t110 => (if 0 ≤ x1 then (if x1 < (t110.length : Int) then (some (rdOf false t110 x1)) else (none)) else (none))))
def cfg_Reaches.f (k : Nat) (l0 : List (Stmt)) (a1 : Int) (a2 : ByteArray) (a3 : Int) : Option (Bool) := (cfg_within.f l0 a1).bind fun t103 => (if t103 = true then ((cfg_within.f l0 a3).bind fun t104 => (if t104 = true then (if 0 ≤ a3 then (if a3 < (l0.length : Int) then ((cfg_defines.f ((rd_T30 l0 a3).kind) ((rd_T30 l0 a3).x) ((rd_T30 l0 a3).y) ((rd_T30 l0 a3).z) ((rd_T30 l0 a3).op) ((rd_T30 l0 a3).n) ((rd_T30 l0 a3).a) ((rd_T30 l0 a3).b) a2).bind fun t106 => (cfg_Reaches.j0 k a1 a3 (!t106) l0 a2)) else (none)) else (none)) else (cfg_Reaches.j0 k a1 a3 true l0 a2))) else (cfg_Reaches.j0 k a1 a3 true l0 a2))
theorem cfg_Reaches.mono_l : ∀ k, (∀ y0 y1 y2 y3 y4, LeO (cfg_Reaches.j0 k y0 y1 y2 y3 y4) (cfg_Reaches.j0 (k + 1) y0 y1 y2 y3 y4))
 | 0 => fun _ _ _ _ _ r h => by simp [cfg_Reaches.j0] at h
 | k + 1 => by
  have ih0 := cfg_Reaches.mono_l k
  ·intro y0 y1 y2 y3 y4
   unfold cfg_Reaches.j0
   repeat' first
   | (with_reducible exact ih0 _ _ _ _ _)
   | (with_reducible exact GReachWays.mono _ _ _ _ _)
   | (with_reducible exact LeO.refl _)
   | (with_reducible exact LeO.none _)
   | (with_reducible refine LeO.ite ?_ ?_)
   | (with_reducible refine LeO.bind ?_ (fun _ => ?_))
   | exact ih0 _ _ _ _ _
   | exact GReachWays.mono _ _ _ _ _
   | exact LeO.none _
   | refine LeO.ite ?_ ?_
   | refine LeO.bind ?_ (fun _ => ?_)
theorem cfg_Reaches.mono : ∀ a0 a1 a2 a3 k, LeO (cfg_Reaches.f k a0 a1 a2 a3) (cfg_Reaches.f (k + 1) a0 a1 a2 a3) := by
 intro a0 a1 a2 a3 k
 have ih0 := cfg_Reaches.mono_l k
 unfold cfg_Reaches.f
 repeat' first
   | (with_reducible exact ih0 _ _ _ _ _)
   | (with_reducible exact GReachWays.mono _ _ _ _ _)
   | (with_reducible exact LeO.refl _)
   | (with_reducible exact LeO.none _)
   | (with_reducible refine LeO.ite ?_ ?_)
   | (with_reducible refine LeO.bind ?_ (fun _ => ?_))
   | exact ih0 _ _ _ _ _
   | exact GReachWays.mono _ _ _ _ _
   | exact LeO.none _
   | refine LeO.ite ?_ ?_
   | refine LeO.bind ?_ (fun _ => ?_)
def cfg_Reaches.T1 : Bool × List (List Nat × List Nat) := (true, [([], []), ([], []), ([0, 1], [0, 1]), ([2], [2]), ([3, 2], [3]), ([4], [4]), ([4], [4]), ([5, 6, 4, 4], [4, 5, 6]), ([7, 4], [4, 7]), ([4, 8], [4, 8]), ([9, 7], [9]), ([10], [10]), ([10], [10]), ([11, 12, 10], [10, 11, 12]), ([13, 10], [10, 13]), ([10], [10]), ([14, 15, 10, 10], [10, 14, 15]), ([16, 10], [10, 16]), ([10, 17], [10, 17])])
def cfg_Reaches.B1 : List Nat := [0, 0, 3, 7, 15, 31, 31, 127, 255, 511, 1023, 2047, 2047, 8191, 16383, 2047, 65535, 131071, 262143]
theorem cfg_Reaches.tab1 : rtab .any (opsOf Try.f23 1) = cfg_Reaches.T1 := by kernel_rfl
theorem cfg_Reaches.bits1 : waitsOk cfg_Reaches.T1.2 cfg_Reaches.B1 = true := by kernel_rfl
def cfg_Reaches.T3 : Bool × List (List Nat × List Nat) := (true, [([], []), ([], []), ([], []), ([1, 2], [1, 2]), ([], []), ([0, 3, 4, 3], [0, 3, 4]), ([], []), ([5, 6], [5, 6]), ([7], [7]), ([8, 5, 0, 1, 2, 3, 4, 5, 6, 7, 8], [8])])
def cfg_Reaches.B3 : List Nat := [0, 0, 0, 6, 0, 31, 0, 127, 255, 511]
theorem cfg_Reaches.tab3 : rtab .any (opsOf Try.f23 3) = cfg_Reaches.T3 := by kernel_rfl
theorem cfg_Reaches.bits3 : waitsOk cfg_Reaches.T3.2 cfg_Reaches.B3 = true := by kernel_rfl
set_option maxHeartbeats 8000000 in
set_option maxRecDepth 100000 in
theorem cfg_Reaches.calls (k : Nat) (A0 : Option Addr) (c0 : Nat) (l0 : List (Stmt)) (a1 : Int) (a2 : ByteArray) (a3 : Int) (r : Bool) (w : World) (hr0 : Kd.C k30 w A0 l0.length l0) (hc0 : l0.length ≤ c0) (h : cfg_Reaches.f k l0 a1 a2 a3 = some r) :
  Calls Try.prog 23 #[.slice A0 l0.length c0, .int .i64 a1, .string a2, .int .i64 a3] w fun e w' => e = .returned (.bool r) ∧ Below w.heap.size w w' := by
 have hu30 := Try.underlying30
 have HR0 := am hr0
 have HC0 := am hc0
 clear hr0 hc0
 have HB := am (Below.refl w.heap.size w)
 have H : ((cfg_within.f l0 a1).bind fun t103 => (if t103 = true then ((cfg_within.f l0 a3).bind fun t104 => (if t104 = true then (if 0 ≤ a3 then (if a3 < (l0.length : Int) then ((cfg_defines.f ((rd_T30 l0 a3).kind) ((rd_T30 l0 a3).x) ((rd_T30 l0 a3).y) ((rd_T30 l0 a3).z) ((rd_T30 l0 a3).op) ((rd_T30 l0 a3).n) ((rd_T30 l0 a3).a) ((rd_T30 l0 a3).b) a2).bind fun t106 => (cfg_Reaches.j0 k a1 a3 (!t106) l0 a2)) else (none)) else (none)) else (cfg_Reaches.j0 k a1 a3 true l0 a2))) else (cfg_Reaches.j0 k a1 a3 true l0 a2))) = some r := h
 clear h
 have HC5 := am H
 clear H
 go_enter Try.func23, Try.ntmps23
 go_upto_region 1 with (first | ((with_reducible refine gate_dst (N := 4) rfl ?_); refine box_event ?hg (N := 4) ?hd (cs := #[.slice A0 l0.length c0]) (t := 22) ?hr ?_; (case hd => rfl); (case hg => rfl); (case hr => first | (go_simp; done) | (go_simp; rfl)); intro gb101 hg w6 hbox hb; have BK101 := am (hbox); have GW101 := am ((by rw [hg]; exact (below_size (by repeat (first | (with_reducible first | exact HB.out | apply lA | apply lN | apply lD) | exact HB.out))) : w.heap.size ≤ gb101)); have GE101 := am ((by rw [hg]; exact (below_size (by repeat (first | (with_reducible first | exact HB.out | apply lA | apply lN | apply lD) | exact HB.out))) : w.heap.size ≤ gb101)); replace HB := am (below_step (by repeat (first | (with_reducible first | exact HB.out | apply lA | apply lN | apply lD) | exact HB.out)) hb); clear hb hbox hg) | ((with_reducible refine gate_dst (N := 6) rfl ?_); refine box_event ?hg (N := 6) ?hd (cs := #[.string a2]) (t := 9) ?hr ?_; (case hd => rfl); (case hg => rfl); (case hr => first | (go_simp; done) | (go_simp; rfl)); intro gb102 hg w7 hbox hb; have BK102 := am (hbox); have GW102 := am ((by rw [hg]; exact (below_size (by repeat (first | (with_reducible first | exact HB.out | apply lA | apply lN | apply lD | refine lS ?_ GE101.out) | exact HB.out))) : w.heap.size ≤ gb102)); have GE102 := am ((by rw [hg]; exact (below_size (by repeat (first | (with_reducible first | exact HB.out | apply lA | apply lN | apply lD | refine lS ?_ GE101.out) | exact HB.out))) : w.heap.size ≤ gb102)); replace HB := am (below_step (by repeat (first | (with_reducible first | exact HB.out | apply lA | apply lN | apply lD | refine lS ?_ GE101.out) | exact HB.out)) hb); have NB101_102 := am ((by rw [hg]; exact Nat.ne_of_lt (blk_lt (g := gb101) (o := .cells #[.slice A0 l0.length c0] 22 (0, 0)) (by (with_reducible repeat (first | refine bN ?_ _ | refine bD ?_ | refine bA ?_ _)); exact BK101.out)) : gb101 ≠ gb102)); have NB102_101 := am ((by rw [hg]; exact Nat.ne_of_gt (blk_lt (g := gb101) (o := .cells #[.slice A0 l0.length c0] 22 (0, 0)) (by (with_reducible repeat (first | refine bN ?_ _ | refine bD ?_ | refine bA ?_ _)); exact BK101.out)) : gb102 ≠ gb101)); replace BK101 := am (blk_below (g := gb101) (o := .cells #[.slice A0 l0.length c0] 22 (0, 0)) (by (with_reducible repeat (first | refine bN ?_ _ | refine bD ?_ | refine bA ?_ _)); exact BK101.out) hb); clear hb hbox hg))
 (try simp only [Act.put, List.setIfInBounds_toArray, List.set_cons_zero, List.set_cons_succ])
 go_cut [27] (fun v27 wc => ∃ (kq : Nat) (x27_4 : Bool), v27 = .bool x27_4 ∧ Aside0 (cfg_Reaches.j0 kq a1 a3 x27_4 l0 a2 = some r) ∧ Aside0 (kq ≤ k) ∧ Aside0 (wc.heap[gb101]? = some (.cells #[(.slice A0 l0.length c0)] 22 (0, 0))) ∧ Aside0 (wc.heap[gb102]? = some (.cells #[.string a2] 9 (0, 0))) ∧ Aside0 (Below w.heap.size w wc))
 case first =>
  have H := HC5.out
  clear HC5
  replace H := Option.bind_eq_some_iff.mp H
  obtain ⟨t103, A80, H⟩ := H
  replace H : (if t103 = true then ((cfg_within.f l0 a3).bind fun t104 => (if t104 = true then (if 0 ≤ a3 then (if a3 < (l0.length : Int) then ((cfg_defines.f ((rd_T30 l0 a3).kind) ((rd_T30 l0 a3).x) ((rd_T30 l0 a3).y) ((rd_T30 l0 a3).z) ((rd_T30 l0 a3).op) ((rd_T30 l0 a3).n) ((rd_T30 l0 a3).a) ((rd_T30 l0 a3).b) a2).bind fun t106 => (cfg_Reaches.j0 k a1 a3 (!t106) l0 a2)) else (none)) else (none)) else (cfg_Reaches.j0 k a1 a3 true l0 a2))) else (cfg_Reaches.j0 k a1 a3 true l0 a2)) = some r := H
  have A8 := am A80
  clear A80
  by_cases c9 : t103 = true
  ·subst c9
   have H1 : ((cfg_within.f l0 a3).bind fun t104 => (if t104 = true then (if 0 ≤ a3 then (if a3 < (l0.length : Int) then ((cfg_defines.f ((rd_T30 l0 a3).kind) ((rd_T30 l0 a3).x) ((rd_T30 l0 a3).y) ((rd_T30 l0 a3).z) ((rd_T30 l0 a3).op) ((rd_T30 l0 a3).n) ((rd_T30 l0 a3).a) ((rd_T30 l0 a3).b) a2).bind fun t106 => (cfg_Reaches.j0 k a1 a3 (!t106) l0 a2)) else (none)) else (none)) else (cfg_Reaches.j0 k a1 a3 true l0 a2))) = some r := by rw [if_pos rfl] at H; exact H
   clear H
   have H := H1
   clear H1
   replace H := Option.bind_eq_some_iff.mp H
   obtain ⟨t104, A100, H⟩ := H
   replace H : (if t104 = true then (if 0 ≤ a3 then (if a3 < (l0.length : Int) then ((cfg_defines.f ((rd_T30 l0 a3).kind) ((rd_T30 l0 a3).x) ((rd_T30 l0 a3).y) ((rd_T30 l0 a3).z) ((rd_T30 l0 a3).op) ((rd_T30 l0 a3).n) ((rd_T30 l0 a3).a) ((rd_T30 l0 a3).b) a2).bind fun t106 => (cfg_Reaches.j0 k a1 a3 (!t106) l0 a2)) else (none)) else (none)) else (cfg_Reaches.j0 k a1 a3 true l0 a2)) = some r := H
   have A10 := am A100
   clear A100
   by_cases c11 : t104 = true
   ·subst c11
    have H1 : (if 0 ≤ a3 then (if a3 < (l0.length : Int) then ((cfg_defines.f ((rd_T30 l0 a3).kind) ((rd_T30 l0 a3).x) ((rd_T30 l0 a3).y) ((rd_T30 l0 a3).z) ((rd_T30 l0 a3).op) ((rd_T30 l0 a3).n) ((rd_T30 l0 a3).a) ((rd_T30 l0 a3).b) a2).bind fun t106 => (cfg_Reaches.j0 k a1 a3 (!t106) l0 a2)) else (none)) else (none)) = some r := by rw [if_pos rfl] at H; exact H
    clear H
    have H := H1
    clear H1
    by_cases c12 : 0 ≤ a3
    ·rw [if_pos c12] at H
     have c12b0 : decide (0 ≤ a3) = true := decide_eq_true c12
     clear c12
     (first | rw [c12b0] | (simp only [i64_w, i32_w]; rw [c12b0]) | skip)
     by_cases c13 : a3 < (l0.length : Int)
     ·rw [if_pos c13] at H
      have c13b0 : decide (a3 < (l0.length : Int)) = true := decide_eq_true c13
      clear c13
      replace H := Option.bind_eq_some_iff.mp H
      obtain ⟨t106, A140, H⟩ := H
      replace H : (cfg_Reaches.j0 k a1 a3 (!t106) l0 a2) = some r := H
      have A14 := am A140
      clear A140
      have H' := am H
      clear H
      try go_wp2
      replace BK101 := am (blk_drew BK101.out)
      replace BK102 := am (blk_drew BK102.out)
      replace HB := am (below_drew1 HB.out)
      have p105 : 0 ≤ (a3 : Int) := of_decide_eq_true (by first | (with_reducible assumption) | assumption)
      have q105 : a3 < (l0.length : Int) := of_decide_eq_true (by first | (with_reducible assumption) | assumption)
      obtain ⟨ad105, e105, hx105_0, hx105_1, hx105_2, hx105_3, hx105_4, hx105_5, hx105_6, hx105_7⟩ := at_T30 HR0.out a3 p105 q105
      have hw105_7 := hx105_7
      have hw105_6 := hx105_6
      have hw105_5 := hx105_5
      have hw105_4 := hx105_4
      have hw105_3 := hx105_3
      have hw105_2 := hx105_2
      have hw105_1 := hx105_1
      have hw105_0 := hx105_0
      cases e105
      replace hx105_0 := (HB.out.cell (blt_ hx105_0)).trans hx105_0
      replace hx105_1 := (HB.out.cell (blt_ hx105_1)).trans hx105_1
      replace hx105_2 := (HB.out.cell (blt_ hx105_2)).trans hx105_2
      replace hx105_3 := (HB.out.cell (blt_ hx105_3)).trans hx105_3
      replace hx105_4 := (HB.out.cell (blt_ hx105_4)).trans hx105_4
      replace hx105_5 := (HB.out.cell (blt_ hx105_5)).trans hx105_5
      replace hx105_6 := (HB.out.cell (blt_ hx105_6)).trans hx105_6
      replace hx105_7 := (HB.out.cell (blt_ hx105_7)).trans hx105_7
      replace p105 := eq_true p105
      replace q105 := eq_true q105
      refine start_ (n := 19) (S := fun w' => w'.cell? ⟨gb101, 0, none⟩ = some (.slice (some ad105) l0.length c0) ∧ w'.cell? ⟨gb102, 0, none⟩ = some (.string a2) ∧ w'.cell? (ad105.add ((a3).toNat * 8)) = some (.int .i64 ((rd_T30 l0 a3).kind)) ∧ w'.cell? ⟨(ad105.add ((a3).toNat * 8)).block, (ad105.add ((a3).toNat * 8)).off + 1, none⟩ = some (.string ((rd_T30 l0 a3).x)) ∧ w'.cell? ⟨(ad105.add ((a3).toNat * 8)).block, (ad105.add ((a3).toNat * 8)).off + 2, none⟩ = some (.string ((rd_T30 l0 a3).y)) ∧ w'.cell? ⟨(ad105.add ((a3).toNat * 8)).block, (ad105.add ((a3).toNat * 8)).off + 3, none⟩ = some (.string ((rd_T30 l0 a3).z)) ∧ w'.cell? ⟨(ad105.add ((a3).toNat * 8)).block, (ad105.add ((a3).toNat * 8)).off + 4, none⟩ = some (.string ((rd_T30 l0 a3).op)) ∧ w'.cell? ⟨(ad105.add ((a3).toNat * 8)).block, (ad105.add ((a3).toNat * 8)).off + 5, none⟩ = some (.int .i64 ((rd_T30 l0 a3).n)) ∧ w'.cell? ⟨(ad105.add ((a3).toNat * 8)).block, (ad105.add ((a3).toNat * 8)).off + 6, none⟩ = some (.int .i64 ((rd_T30 l0 a3).a)) ∧ w'.cell? ⟨(ad105.add ((a3).toNat * 8)).block, (ad105.add ((a3).toNat * 8)).off + 7, none⟩ = some (.int .i64 ((rd_T30 l0 a3).b))) (ds := []) (bl 19 0) (by kernel_rfl) rfl rfl ⟨(blk_cell BK101.out 0).trans rfl, (blk_cell BK102.out 0).trans rfl, ((HB.out.cell (blt_ hw105_0)).trans hw105_0), ((HB.out.cell (blt_ hw105_1)).trans hw105_1), ((HB.out.cell (blt_ hw105_2)).trans hw105_2), ((HB.out.cell (blt_ hw105_3)).trans hw105_3), ((HB.out.cell (blt_ hw105_4)).trans hw105_4), ((HB.out.cell (blt_ hw105_5)).trans hw105_5), ((HB.out.cell (blt_ hw105_6)).trans hw105_6), ((HB.out.cell (blt_ hw105_7)).trans hw105_7)⟩ (fun hHeld => ?_); refine with_tabW cfg_Reaches.tab1 cfg_Reaches.bits1 (fun HT_ HW_ => ?_)
      generalize w7.drew = w15 at BK101 BK102 HB hx105_0 hx105_1 hx105_2 hx105_3 hx105_4 hx105_5 hx105_6 hx105_7 hHeld ⊢
      refine pure_ (i := 1) (N := some 10) (v := ?_) (a' := ?_) (bl 19 2) rfl rfl (any_of HT_.out (by kernel_rfl)) (fun _ _ _ h => h) (Or.inl ⟨by rfl, ?_⟩) ?_ ?_
      rotate_left
      ·intro w'
       go_simp
       with_reducible rfl
      rotate_left
      ·simp only [Act.put, sA, sZ, sS, i64_w, i32_w]
       rfl
      refine take_ (i := 0) (N := some 9) (v := ?_) (a' := ?_) (bl 19 3) rfl rfl (take_ofW HT_.out HW_.out (by kernel_rfl)) (fun _ _ _ h => h) (Or.inl ⟨by rfl, ?_⟩) hHeld ?_ ?_
      rotate_left
      ·rintro w' ⟨s0, s1, s2, s3, s4, s5, s6, s7, s8, s9⟩
       go_simp
       with_reducible rfl
      rotate_left
      ·simp only [Act.put, sA, sZ, sS, i64_w, i32_w]
       rfl
      refine one_ (i := 2) (N := some 11) (bl 19 7) rfl rfl (one_of HT_.out (by kernel_rfl)) (by decide) (fun K hK => ?_)
      refine goes_ Try.func42 (by kernel_rfl) rfl #[.slice (some ad105) l0.length c0, .int .i64 a1] (by rfl) rfl rfl (by (try simp only [List.map_toArray, List.map_cons, List.map_nil]); first | done | rfl | (simp only [List.length_drop, List.length_take]; rfl)) ?_
      with_reducible refine (cfg_within.calls _ _ l0 a1 true _ ?side1 ?side2 A8.out).mono ?_
      (case side1 => repeat (first | exact (Kd.C_below HR0.out HB.out) | (with_reducible refine Kd.C_alloc ?_ _) | (with_reducible refine Kd.C_drewN ?_ _) | (with_reducible refine Kd.C_drew ?_)))
      (case side2 => exact HC0.out)
      rintro e w' ⟨rfl, ⟨nd, rfl⟩⟩
      refine ⟨_, rfl, ?_⟩
      refine hK.out _ _ ⟨(blk_cell BK101.out 0).trans rfl, (blk_cell BK102.out 0).trans rfl, ((HB.out.cell (blt_ hw105_0)).trans hw105_0), ((HB.out.cell (blt_ hw105_1)).trans hw105_1), ((HB.out.cell (blt_ hw105_2)).trans hw105_2), ((HB.out.cell (blt_ hw105_3)).trans hw105_3), ((HB.out.cell (blt_ hw105_4)).trans hw105_4), ((HB.out.cell (blt_ hw105_5)).trans hw105_5), ((HB.out.cell (blt_ hw105_6)).trans hw105_6), ((HB.out.cell (blt_ hw105_7)).trans hw105_7)⟩ (fun hHeld => ?_)
      clear hK K
      refine norm_ (a' := ?_) ?_ ?_
      rotate_left
      ·show Act.put _ (some 11) _ = _
       simp only [Act.put, sA, sZ, sS, i64_w, i32_w]
       rfl
      refine pure_ (i := 3) (N := some 12) (v := ?_) (a' := ?_) (bl 19 15) rfl rfl (any_of HT_.out (by kernel_rfl)) (fun _ _ _ h => h) (Or.inl ⟨by rfl, ?_⟩) ?_ ?_
      rotate_left
      ·intro w'
       go_simp
       with_reducible rfl
      rotate_left
      ·simp only [Act.put, sA, sZ, sS, i64_w, i32_w]
       rfl
      refine pure_ (i := 4) (N := some 13) (v := ?_) (a' := ?_) (bl 19 31) rfl rfl (any_of HT_.out (by kernel_rfl)) (fun _ _ _ h => h) (Or.inl ⟨by rfl, ?_⟩) ?_ ?_
      rotate_left
      ·intro w'
       go_simp
       with_reducible rfl
      rotate_left
      ·simp only [Act.put, sA, sZ, sS, i64_w, i32_w]
       rfl
      refine pure_ (i := 6) (N := some 15) (v := ?_) (a' := ?_) (bl 19 95) rfl rfl (any_of HT_.out (by kernel_rfl)) (fun _ _ _ h => h) (Or.inl ⟨by rfl, ?_⟩) ?_ ?_
      rotate_left
      ·intro w'
       go_simp
       with_reducible rfl
      rotate_left
      ·simp only [Act.put, sA, sZ, sS, i64_w, i32_w]
       rfl
      refine take_ (i := 5) (N := some 14) (v := ?_) (a' := ?_) (bl 19 127) rfl rfl (take_ofW HT_.out HW_.out (by kernel_rfl)) (fun _ _ _ h => h) (Or.inl ⟨by rfl, ?_⟩) hHeld ?_ ?_
      rotate_left
      ·rintro w' ⟨s0, s1, s2, s3, s4, s5, s6, s7, s8, s9⟩
       go_simp
       with_reducible rfl
      rotate_left
      ·simp only [Act.put, sA, sZ, sS, i64_w, i32_w]
       rfl
      refine one_ (i := 7) (N := some 16) (bl 19 255) rfl rfl (one_of HT_.out (by kernel_rfl)) (by decide) (fun K hK => ?_)
      refine goes_ Try.func42 (by kernel_rfl) rfl #[.slice (some ad105) l0.length c0, .int .i64 a3] (by rfl) rfl rfl (by (try simp only [List.map_toArray, List.map_cons, List.map_nil]); first | done | rfl | (simp only [List.length_drop, List.length_take]; rfl)) ?_
      with_reducible refine (cfg_within.calls _ _ l0 a3 true _ ?side1 ?side2 A10.out).mono ?_
      (case side1 => repeat (first | exact (Kd.C_below HR0.out (by repeat (first | (with_reducible first | exact HB.out | apply lA | apply lN | apply lD | refine lS ?_ GE101.out | refine lS ?_ GE102.out) | exact HB.out))) | (with_reducible refine Kd.C_alloc ?_ _) | (with_reducible refine Kd.C_drewN ?_ _) | (with_reducible refine Kd.C_drew ?_)))
      (case side2 => exact HC0.out)
      rintro e w' ⟨rfl, ⟨nd, rfl⟩⟩
      refine ⟨_, rfl, ?_⟩
      refine hK.out _ _ ⟨(blk_cell BK101.out 0).trans rfl, (blk_cell BK102.out 0).trans rfl, ((HB.out.cell (blt_ hw105_0)).trans hw105_0), ((HB.out.cell (blt_ hw105_1)).trans hw105_1), ((HB.out.cell (blt_ hw105_2)).trans hw105_2), ((HB.out.cell (blt_ hw105_3)).trans hw105_3), ((HB.out.cell (blt_ hw105_4)).trans hw105_4), ((HB.out.cell (blt_ hw105_5)).trans hw105_5), ((HB.out.cell (blt_ hw105_6)).trans hw105_6), ((HB.out.cell (blt_ hw105_7)).trans hw105_7)⟩ (fun hHeld => ?_)
      clear hK K
      refine norm_ (a' := ?_) ?_ ?_
      rotate_left
      ·show Act.put _ (some 16) _ = _
       simp only [Act.put, sA, sZ, sS, i64_w, i32_w]
       rfl
      refine pure_ (i := 8) (N := some 17) (v := ?_) (a' := ?_) (bl 19 511) rfl rfl (any_of HT_.out (by kernel_rfl)) (fun _ _ _ h => h) (Or.inl ⟨by rfl, ?_⟩) ?_ ?_
      rotate_left
      ·intro w'
       go_simp
       with_reducible rfl
      rotate_left
      ·simp only [Act.put, sA, sZ, sS, i64_w, i32_w]
       rfl
      refine pure_ (i := 9) (N := some 18) (v := ?_) (a' := ?_) (bl 19 1023) rfl rfl (any_of HT_.out (by kernel_rfl)) (fun _ _ _ h => h) (Or.inl ⟨by rfl, ?_⟩) ?_ ?_
      rotate_left
      ·intro w'
       go_simp
       with_reducible rfl
      rotate_left
      ·simp only [Act.put, sA, sZ, sS, i64_w, i32_w]
       rfl
      refine pure_ (i := 10) (N := some 19) (v := ?_) (a' := ?_) (bl 19 2047) rfl rfl (any_of HT_.out (by kernel_rfl)) (fun _ _ _ h => h) (Or.inl ⟨by rfl, ?_⟩) ?_ ?_
      rotate_left
      ·intro w'
       go_simp
       with_reducible rfl
      rotate_left
      ·simp only [Act.put, sA, sZ, sS, i64_w, i32_w]
       rfl
      refine pure_ (i := 12) (N := some 21) (v := ?_) (a' := ?_) (bl 19 6143) rfl rfl (any_of HT_.out (by kernel_rfl)) (fun _ _ _ h => h) (Or.inl ⟨by rfl, ?_⟩) ?_ ?_
      rotate_left
      ·intro w'
       go_simp
       with_reducible rfl
      rotate_left
      ·simp only [Act.put, sA, sZ, sS, i64_w, i32_w]
       rfl
      refine take_ (i := 11) (N := some 20) (v := ?_) (a' := ?_) (bl 19 8191) rfl rfl (take_ofW HT_.out HW_.out (by kernel_rfl)) (fun _ _ _ h => h) (Or.inl ⟨by rfl, ?_⟩) hHeld ?_ ?_
      rotate_left
      ·rintro w' ⟨s0, s1, s2, s3, s4, s5, s6, s7, s8, s9⟩
       go_simp
       with_reducible rfl
      rotate_left
      ·simp only [Act.put, sA, sZ, sS, i64_w, i32_w]
       rfl
      refine pure_ (i := 13) (N := some 22) (v := ?_) (a' := ?_) (bl 19 16383) rfl rfl (any_of HT_.out (by kernel_rfl)) (fun _ _ _ h => h) (Or.inl ⟨by rfl, ?_⟩) ?_ ?_
      rotate_left
      ·intro w'
       go_simp
       with_reducible rfl
      rotate_left
      ·simp only [Act.put, sA, sZ, sS, i64_w, i32_w]
       rfl
      refine take_ (i := 14) (N := some 23) (v := ?_) (a' := ?_) (bl 19 32767) rfl rfl (take_ofW HT_.out HW_.out (by kernel_rfl)) (fun _ _ _ h => h) (Or.inl ⟨by rfl, ?_⟩) hHeld ?_ ?_
      rotate_left
      ·rintro w' ⟨s0, s1, s2, s3, s4, s5, s6, s7, s8, s9⟩
       go_simp
       with_reducible rfl
      rotate_left
      ·simp only [Act.put, sA, sZ, sS, i64_w, i32_w]
       rfl
      refine take_ (i := 15) (N := some 24) (v := ?_) (a' := ?_) (bl 19 65535) rfl rfl (take_ofW HT_.out HW_.out (by kernel_rfl)) (fun _ _ _ h => h) (Or.inl ⟨by rfl, ?_⟩) hHeld ?_ ?_
      rotate_left
      ·rintro w' ⟨s0, s1, s2, s3, s4, s5, s6, s7, s8, s9⟩
       go_simp
       with_reducible rfl
      rotate_left
      ·simp only [Act.put, sA, sZ, sS, i64_w, i32_w]
       rfl
      refine one_ (i := 16) (N := some 25) (bl 19 131071) rfl rfl (one_of HT_.out (by kernel_rfl)) (by decide) (fun K hK => ?_)
      refine goes_ Try.func45 (by kernel_rfl) rfl #[.agg #[.int .i64 ((rd_T30 l0 a3).kind), .string ((rd_T30 l0 a3).x), .string ((rd_T30 l0 a3).y), .string ((rd_T30 l0 a3).z), .string ((rd_T30 l0 a3).op), .int .i64 ((rd_T30 l0 a3).n), .int .i64 ((rd_T30 l0 a3).a), .int .i64 ((rd_T30 l0 a3).b)], .string a2] (by rfl) rfl rfl (by (try simp only [List.map_toArray, List.map_cons, List.map_nil]); first | done | rfl | (simp only [List.length_drop, List.length_take]; rfl)) ?_
      with_reducible refine (cfg_defines.calls ((rd_T30 l0 a3).kind) ((rd_T30 l0 a3).x) ((rd_T30 l0 a3).y) ((rd_T30 l0 a3).z) ((rd_T30 l0 a3).op) ((rd_T30 l0 a3).n) ((rd_T30 l0 a3).a) ((rd_T30 l0 a3).b) a2 t106 _ A14.out).mono ?_
      rintro e w16 ⟨rfl, hb⟩
      refine ⟨_, rfl, ?_⟩
      replace BK101 := am (blk_below (g := gb101) (o := .cells #[.slice (some ad105) l0.length c0] 22 (0, 0)) (by (with_reducible repeat (first | refine bN ?_ _ | refine bD ?_ | refine bA ?_ _)); exact BK101.out) hb)
      replace BK102 := am (blk_below (g := gb102) (o := .cells #[.string a2] 9 (0, 0)) (by (with_reducible repeat (first | refine bN ?_ _ | refine bD ?_ | refine bA ?_ _)); exact BK102.out) hb)
      replace HB := am (below_step (by repeat (first | (with_reducible first | exact HB.out | apply lA | apply lN | apply lD | refine lS ?_ GE101.out | refine lS ?_ GE102.out) | exact HB.out)) hb)
      (try clear hb)
      (try clear hb2)
      (try clear hk)
      (try clear hi)
      refine hK.out _ _ ⟨(blk_cell BK101.out 0).trans rfl, (blk_cell BK102.out 0).trans rfl, ((HB.out.cell (blt_ hw105_0)).trans hw105_0), ((HB.out.cell (blt_ hw105_1)).trans hw105_1), ((HB.out.cell (blt_ hw105_2)).trans hw105_2), ((HB.out.cell (blt_ hw105_3)).trans hw105_3), ((HB.out.cell (blt_ hw105_4)).trans hw105_4), ((HB.out.cell (blt_ hw105_5)).trans hw105_5), ((HB.out.cell (blt_ hw105_6)).trans hw105_6), ((HB.out.cell (blt_ hw105_7)).trans hw105_7)⟩ (fun hHeld => ?_)
      clear hK K
      refine norm_ (a' := ?_) ?_ ?_
      rotate_left
      ·show Act.put _ (some 25) _ = _
       simp only [Act.put, sA, sZ, sS, i64_w, i32_w]
       rfl
      refine pure_ (i := 17) (N := some 26) (v := ?_) (a' := ?_) (bl 19 262143) rfl rfl (any_of HT_.out (by kernel_rfl)) (fun _ _ _ h => h) (Or.inl ⟨by rfl, ?_⟩) ?_ ?_
      rotate_left
      ·intro w'
       go_simp
       with_reducible rfl
      rotate_left
      ·simp only [Act.put, sA, sZ, sS, i64_w, i32_w]
       rfl
      refine pure_ (i := 18) (N := some 27) (v := ?_) (a' := ?_) (bl 19 524287) rfl rfl (any_of HT_.out (by kernel_rfl)) (fun _ _ _ h => h) (Or.inl ⟨by rfl, ?_⟩) ?_ ?_
      rotate_left
      ·intro w'
       go_simp
       with_reducible rfl
      rotate_left
      ·simp only [Act.put, sA, sZ, sS, i64_w, i32_w]
       rfl
      refine done_ (done_of HT_.out (by kernel_rfl)) ?_
      try go_wp2
      go_meet
      case rel => exact ⟨_, (!t106), (by first | rfl | (simp; done) | (simp [*]; done)), H', ⟨by first | omega | exact Nat.le_refl _⟩, ⟨by (with_reducible repeat (first | refine bN ?_ _ | refine bD ?_ | refine bA ?_ _)); exact BK101.out⟩, ⟨by (with_reducible repeat (first | refine bN ?_ _ | refine bD ?_ | refine bA ?_ _)); exact BK102.out⟩, ⟨by repeat (first | (with_reducible first | exact HB.out | apply lA | apply lN | apply lD | refine lS ?_ GE101.out | refine lS ?_ GE102.out) | exact HB.out)⟩⟩
     ·rw [if_neg c13] at H
      exact absurd H (by simp)
    ·rw [if_neg c12] at H
     exact absurd H (by simp)
   ·replace c11 := Bool.eq_false_iff.mpr c11
    subst c11
    have H1 : (cfg_Reaches.j0 k a1 a3 true l0 a2) = some r := by rw [if_neg (show ¬ (false = true) by decide)] at H; exact H
    clear H
    have H := H1
    clear H1
    have H' := am H
    clear H
    try go_wp2
    replace BK101 := am (blk_drew BK101.out)
    replace BK102 := am (blk_drew BK102.out)
    replace HB := am (below_drew1 HB.out)
    refine start_ (n := 19) (S := fun w' => w'.cell? ⟨gb101, 0, none⟩ = some (.slice A0 l0.length c0)) (ds := []) (bl 19 0) (by kernel_rfl) rfl rfl ((blk_cell BK101.out 0).trans rfl) (fun hHeld => ?_); refine with_tabW cfg_Reaches.tab1 cfg_Reaches.bits1 (fun HT_ HW_ => ?_)
    generalize w7.drew = w17 at BK101 BK102 HB hHeld ⊢
    refine pure_ (i := 1) (N := some 10) (v := ?_) (a' := ?_) (bl 19 2) rfl rfl (any_of HT_.out (by kernel_rfl)) (fun _ _ _ h => h) (Or.inl ⟨by rfl, ?_⟩) ?_ ?_
    rotate_left
    ·intro w'
     go_simp
     with_reducible rfl
    rotate_left
    ·simp only [Act.put, sA, sZ, sS, i64_w, i32_w]
     rfl
    refine take_ (i := 0) (N := some 9) (v := ?_) (a' := ?_) (bl 19 3) rfl rfl (take_ofW HT_.out HW_.out (by kernel_rfl)) (fun _ _ _ h => h) (Or.inl ⟨by rfl, ?_⟩) hHeld ?_ ?_
    rotate_left
    ·intro w' s0
     go_simp
     with_reducible rfl
    rotate_left
    ·simp only [Act.put, sA, sZ, sS, i64_w, i32_w]
     rfl
    refine one_ (i := 2) (N := some 11) (bl 19 7) rfl rfl (one_of HT_.out (by kernel_rfl)) (by decide) (fun K hK => ?_)
    refine goes_ Try.func42 (by kernel_rfl) rfl #[.slice A0 l0.length c0, .int .i64 a1] (by rfl) rfl rfl (by (try simp only [List.map_toArray, List.map_cons, List.map_nil]); first | done | rfl | (simp only [List.length_drop, List.length_take]; rfl)) ?_
    with_reducible refine (cfg_within.calls _ _ l0 a1 true _ ?side1 ?side2 A8.out).mono ?_
    (case side1 => repeat (first | exact (Kd.C_below HR0.out HB.out) | (with_reducible refine Kd.C_alloc ?_ _) | (with_reducible refine Kd.C_drewN ?_ _) | (with_reducible refine Kd.C_drew ?_)))
    (case side2 => exact HC0.out)
    rintro e w' ⟨rfl, ⟨nd, rfl⟩⟩
    refine ⟨_, rfl, ?_⟩
    refine hK.out _ _ ((blk_cell BK101.out 0).trans rfl) (fun hHeld => ?_)
    clear hK K
    refine norm_ (a' := ?_) ?_ ?_
    rotate_left
    ·show Act.put _ (some 11) _ = _
     simp only [Act.put, sA, sZ, sS, i64_w, i32_w]
     rfl
    refine pure_ (i := 3) (N := some 12) (v := ?_) (a' := ?_) (bl 19 15) rfl rfl (any_of HT_.out (by kernel_rfl)) (fun _ _ _ h => h) (Or.inl ⟨by rfl, ?_⟩) ?_ ?_
    rotate_left
    ·intro w'
     go_simp
     with_reducible rfl
    rotate_left
    ·simp only [Act.put, sA, sZ, sS, i64_w, i32_w]
     rfl
    refine pure_ (i := 4) (N := some 13) (v := ?_) (a' := ?_) (bl 19 31) rfl rfl (any_of HT_.out (by kernel_rfl)) (fun _ _ _ h => h) (Or.inl ⟨by rfl, ?_⟩) ?_ ?_
    rotate_left
    ·intro w'
     go_simp
     with_reducible rfl
    rotate_left
    ·simp only [Act.put, sA, sZ, sS, i64_w, i32_w]
     rfl
    refine pure_ (i := 6) (N := some 15) (v := ?_) (a' := ?_) (bl 19 95) rfl rfl (any_of HT_.out (by kernel_rfl)) (fun _ _ _ h => h) (Or.inl ⟨by rfl, ?_⟩) ?_ ?_
    rotate_left
    ·intro w'
     go_simp
     with_reducible rfl
    rotate_left
    ·simp only [Act.put, sA, sZ, sS, i64_w, i32_w]
     rfl
    refine take_ (i := 5) (N := some 14) (v := ?_) (a' := ?_) (bl 19 127) rfl rfl (take_ofW HT_.out HW_.out (by kernel_rfl)) (fun _ _ _ h => h) (Or.inl ⟨by rfl, ?_⟩) hHeld ?_ ?_
    rotate_left
    ·intro w' s0
     go_simp
     with_reducible rfl
    rotate_left
    ·simp only [Act.put, sA, sZ, sS, i64_w, i32_w]
     rfl
    refine one_ (i := 7) (N := some 16) (bl 19 255) rfl rfl (one_of HT_.out (by kernel_rfl)) (by decide) (fun K hK => ?_)
    refine goes_ Try.func42 (by kernel_rfl) rfl #[.slice A0 l0.length c0, .int .i64 a3] (by rfl) rfl rfl (by (try simp only [List.map_toArray, List.map_cons, List.map_nil]); first | done | rfl | (simp only [List.length_drop, List.length_take]; rfl)) ?_
    with_reducible refine (cfg_within.calls _ _ l0 a3 false _ ?side1 ?side2 A10.out).mono ?_
    (case side1 => repeat (first | exact (Kd.C_below HR0.out (by repeat (first | (with_reducible first | exact HB.out | apply lA | apply lN | apply lD | refine lS ?_ GE101.out | refine lS ?_ GE102.out) | exact HB.out))) | (with_reducible refine Kd.C_alloc ?_ _) | (with_reducible refine Kd.C_drewN ?_ _) | (with_reducible refine Kd.C_drew ?_)))
    (case side2 => exact HC0.out)
    rintro e w' ⟨rfl, ⟨nd, rfl⟩⟩
    refine ⟨_, rfl, ?_⟩
    refine hK.out _ _ ((blk_cell BK101.out 0).trans rfl) (fun hHeld => ?_)
    clear hK K
    refine norm_ (a' := ?_) ?_ ?_
    rotate_left
    ·show Act.put _ (some 16) _ = _
     simp only [Act.put, sA, sZ, sS, i64_w, i32_w]
     rfl
    refine pure_ (i := 8) (N := some 17) (v := ?_) (a' := ?_) (bl 19 511) rfl rfl (any_of HT_.out (by kernel_rfl)) (fun _ _ _ h => h) (Or.inl ⟨by rfl, ?_⟩) ?_ ?_
    rotate_left
    ·intro w'
     go_simp
     with_reducible rfl
    rotate_left
    ·simp only [Act.put, sA, sZ, sS, i64_w, i32_w]
     rfl
    refine pure_ (i := 9) (N := some 18) (v := ?_) (a' := ?_) (bl 19 1023) rfl rfl (any_of HT_.out (by kernel_rfl)) (fun _ _ _ h => h) (Or.inl ⟨by rfl, ?_⟩) ?_ ?_
    rotate_left
    ·intro w'
     go_simp
     with_reducible rfl
    rotate_left
    ·simp only [Act.put, sA, sZ, sS, i64_w, i32_w]
     rfl
    refine pure_ (i := 10) (N := some 19) (v := ?_) (a' := ?_) (bl 19 2047) rfl rfl (any_of HT_.out (by kernel_rfl)) (fun _ _ _ h => h) (Or.inl ⟨by rfl, ?_⟩) ?_ ?_
    rotate_left
    ·intro w'
     go_simp
     with_reducible rfl
    rotate_left
    ·simp only [Act.put, sA, sZ, sS, i64_w, i32_w]
     rfl
    refine pure_ (i := 11) (N := some 20) (v := undef) (a' := ?_) (bl 19 4095) rfl rfl (any_of HT_.out (by kernel_rfl)) (fun _ _ _ h => h) (Or.inr ⟨by rfl, rfl⟩) ?_ ?_
    rotate_left
    ·simp only [Act.put, sA, sZ, sS, i64_w, i32_w]
     rfl
    refine pure_ (i := 12) (N := some 21) (v := undef) (a' := ?_) (bl 19 8191) rfl rfl (any_of HT_.out (by kernel_rfl)) (fun _ _ _ h => h) (Or.inr ⟨by rfl, rfl⟩) ?_ ?_
    rotate_left
    ·simp only [Act.put, sA, sZ, sS, i64_w, i32_w]
     rfl
    refine pure_ (i := 13) (N := some 22) (v := undef) (a' := ?_) (bl 19 16383) rfl rfl (any_of HT_.out (by kernel_rfl)) (fun _ _ _ h => h) (Or.inr ⟨by rfl, rfl⟩) ?_ ?_
    rotate_left
    ·simp only [Act.put, sA, sZ, sS, i64_w, i32_w]
     rfl
    refine pure_ (i := 14) (N := some 23) (v := undef) (a' := ?_) (bl 19 32767) rfl rfl (any_of HT_.out (by kernel_rfl)) (fun _ _ _ h => h) (Or.inr ⟨by rfl, rfl⟩) ?_ ?_
    rotate_left
    ·simp only [Act.put, sA, sZ, sS, i64_w, i32_w]
     rfl
    refine pure_ (i := 15) (N := some 24) (v := undef) (a' := ?_) (bl 19 65535) rfl rfl (any_of HT_.out (by kernel_rfl)) (fun _ _ _ h => h) (Or.inr ⟨by rfl, rfl⟩) ?_ ?_
    rotate_left
    ·simp only [Act.put, sA, sZ, sS, i64_w, i32_w]
     rfl
    refine pure_ (i := 16) (N := some 25) (v := undef) (a' := ?_) (bl 19 131071) rfl rfl (any_of HT_.out (by kernel_rfl)) (fun _ _ _ h => h) (Or.inr ⟨by rfl, rfl⟩) ?_ ?_
    rotate_left
    ·simp only [Act.put, sA, sZ, sS, i64_w, i32_w]
     rfl
    refine pure_ (i := 17) (N := some 26) (v := undef) (a' := ?_) (bl 19 262143) rfl rfl (any_of HT_.out (by kernel_rfl)) (fun _ _ _ h => h) (Or.inr ⟨by rfl, rfl⟩) ?_ ?_
    rotate_left
    ·simp only [Act.put, sA, sZ, sS, i64_w, i32_w]
     rfl
    refine pure_ (i := 18) (N := some 27) (v := ?_) (a' := ?_) (bl 19 524287) rfl rfl (any_of HT_.out (by kernel_rfl)) (fun _ _ _ h => h) (Or.inl ⟨by rfl, ?_⟩) ?_ ?_
    rotate_left
    ·intro w'
     go_simp
     with_reducible rfl
    rotate_left
    ·simp only [Act.put, sA, sZ, sS, i64_w, i32_w]
     rfl
    refine done_ (done_of HT_.out (by kernel_rfl)) ?_
    try go_wp2
    go_meet
    case rel => exact ⟨_, (true), (by first | rfl | (simp; done) | (simp [*]; done)), H', ⟨by first | omega | exact Nat.le_refl _⟩, ⟨by (with_reducible repeat (first | refine bN ?_ _ | refine bD ?_ | refine bA ?_ _)); exact BK101.out⟩, ⟨by (with_reducible repeat (first | refine bN ?_ _ | refine bD ?_ | refine bA ?_ _)); exact BK102.out⟩, ⟨by repeat (first | (with_reducible first | exact HB.out | apply lA | apply lN | apply lD | refine lS ?_ GE101.out | refine lS ?_ GE102.out) | exact HB.out)⟩⟩
  ·replace c9 := Bool.eq_false_iff.mpr c9
   subst c9
   have H1 : (cfg_Reaches.j0 k a1 a3 true l0 a2) = some r := by rw [if_neg (show ¬ (false = true) by decide)] at H; exact H
   clear H
   have H := H1
   clear H1
   have H' := am H
   clear H
   try go_wp2
   replace BK101 := am (blk_drew BK101.out)
   replace BK102 := am (blk_drew BK102.out)
   replace HB := am (below_drew1 HB.out)
   refine start_ (n := 19) (S := fun w' => w'.cell? ⟨gb101, 0, none⟩ = some (.slice A0 l0.length c0)) (ds := []) (bl 19 0) (by kernel_rfl) rfl rfl ((blk_cell BK101.out 0).trans rfl) (fun hHeld => ?_); refine with_tabW cfg_Reaches.tab1 cfg_Reaches.bits1 (fun HT_ HW_ => ?_)
   generalize w7.drew = w18 at BK101 BK102 HB hHeld ⊢
   refine pure_ (i := 1) (N := some 10) (v := ?_) (a' := ?_) (bl 19 2) rfl rfl (any_of HT_.out (by kernel_rfl)) (fun _ _ _ h => h) (Or.inl ⟨by rfl, ?_⟩) ?_ ?_
   rotate_left
   ·intro w'
    go_simp
    with_reducible rfl
   rotate_left
   ·simp only [Act.put, sA, sZ, sS, i64_w, i32_w]
    rfl
   refine take_ (i := 0) (N := some 9) (v := ?_) (a' := ?_) (bl 19 3) rfl rfl (take_ofW HT_.out HW_.out (by kernel_rfl)) (fun _ _ _ h => h) (Or.inl ⟨by rfl, ?_⟩) hHeld ?_ ?_
   rotate_left
   ·intro w' s0
    go_simp
    with_reducible rfl
   rotate_left
   ·simp only [Act.put, sA, sZ, sS, i64_w, i32_w]
    rfl
   refine one_ (i := 2) (N := some 11) (bl 19 7) rfl rfl (one_of HT_.out (by kernel_rfl)) (by decide) (fun K hK => ?_)
   refine goes_ Try.func42 (by kernel_rfl) rfl #[.slice A0 l0.length c0, .int .i64 a1] (by rfl) rfl rfl (by (try simp only [List.map_toArray, List.map_cons, List.map_nil]); first | done | rfl | (simp only [List.length_drop, List.length_take]; rfl)) ?_
   with_reducible refine (cfg_within.calls _ _ l0 a1 false _ ?side1 ?side2 A8.out).mono ?_
   (case side1 => repeat (first | exact (Kd.C_below HR0.out HB.out) | (with_reducible refine Kd.C_alloc ?_ _) | (with_reducible refine Kd.C_drewN ?_ _) | (with_reducible refine Kd.C_drew ?_)))
   (case side2 => exact HC0.out)
   rintro e w' ⟨rfl, ⟨nd, rfl⟩⟩
   refine ⟨_, rfl, ?_⟩
   refine hK.out _ _ ((blk_cell BK101.out 0).trans rfl) (fun hHeld => ?_)
   clear hK K
   refine norm_ (a' := ?_) ?_ ?_
   rotate_left
   ·show Act.put _ (some 11) _ = _
    simp only [Act.put, sA, sZ, sS, i64_w, i32_w]
    rfl
   refine pure_ (i := 3) (N := some 12) (v := ?_) (a' := ?_) (bl 19 15) rfl rfl (any_of HT_.out (by kernel_rfl)) (fun _ _ _ h => h) (Or.inl ⟨by rfl, ?_⟩) ?_ ?_
   rotate_left
   ·intro w'
    go_simp
    with_reducible rfl
   rotate_left
   ·simp only [Act.put, sA, sZ, sS, i64_w, i32_w]
    rfl
   refine pure_ (i := 4) (N := some 13) (v := ?_) (a' := ?_) (bl 19 31) rfl rfl (any_of HT_.out (by kernel_rfl)) (fun _ _ _ h => h) (Or.inl ⟨by rfl, ?_⟩) ?_ ?_
   rotate_left
   ·intro w'
    go_simp
    with_reducible rfl
   rotate_left
   ·simp only [Act.put, sA, sZ, sS, i64_w, i32_w]
    rfl
   refine pure_ (i := 5) (N := some 14) (v := undef) (a' := ?_) (bl 19 63) rfl rfl (any_of HT_.out (by kernel_rfl)) (fun _ _ _ h => h) (Or.inr ⟨by rfl, rfl⟩) ?_ ?_
   rotate_left
   ·simp only [Act.put, sA, sZ, sS, i64_w, i32_w]
    rfl
   refine pure_ (i := 6) (N := some 15) (v := undef) (a' := ?_) (bl 19 127) rfl rfl (any_of HT_.out (by kernel_rfl)) (fun _ _ _ h => h) (Or.inr ⟨by rfl, rfl⟩) ?_ ?_
   rotate_left
   ·simp only [Act.put, sA, sZ, sS, i64_w, i32_w]
    rfl
   refine pure_ (i := 7) (N := some 16) (v := undef) (a' := ?_) (bl 19 255) rfl rfl (any_of HT_.out (by kernel_rfl)) (fun _ _ _ h => h) (Or.inr ⟨by rfl, rfl⟩) ?_ ?_
   rotate_left
   ·simp only [Act.put, sA, sZ, sS, i64_w, i32_w]
    rfl
   refine pure_ (i := 8) (N := some 17) (v := undef) (a' := ?_) (bl 19 511) rfl rfl (any_of HT_.out (by kernel_rfl)) (fun _ _ _ h => h) (Or.inr ⟨by rfl, rfl⟩) ?_ ?_
   rotate_left
   ·simp only [Act.put, sA, sZ, sS, i64_w, i32_w]
    rfl
   refine pure_ (i := 9) (N := some 18) (v := ?_) (a' := ?_) (bl 19 1023) rfl rfl (any_of HT_.out (by kernel_rfl)) (fun _ _ _ h => h) (Or.inl ⟨by rfl, ?_⟩) ?_ ?_
   rotate_left
   ·intro w'
    go_simp
    with_reducible rfl
   rotate_left
   ·simp only [Act.put, sA, sZ, sS, i64_w, i32_w]
    rfl
   refine pure_ (i := 10) (N := some 19) (v := ?_) (a' := ?_) (bl 19 2047) rfl rfl (any_of HT_.out (by kernel_rfl)) (fun _ _ _ h => h) (Or.inl ⟨by rfl, ?_⟩) ?_ ?_
   rotate_left
   ·intro w'
    go_simp
    with_reducible rfl
   rotate_left
   ·simp only [Act.put, sA, sZ, sS, i64_w, i32_w]
    rfl
   refine pure_ (i := 11) (N := some 20) (v := undef) (a' := ?_) (bl 19 4095) rfl rfl (any_of HT_.out (by kernel_rfl)) (fun _ _ _ h => h) (Or.inr ⟨by rfl, rfl⟩) ?_ ?_
   rotate_left
   ·simp only [Act.put, sA, sZ, sS, i64_w, i32_w]
    rfl
   refine pure_ (i := 12) (N := some 21) (v := undef) (a' := ?_) (bl 19 8191) rfl rfl (any_of HT_.out (by kernel_rfl)) (fun _ _ _ h => h) (Or.inr ⟨by rfl, rfl⟩) ?_ ?_
   rotate_left
   ·simp only [Act.put, sA, sZ, sS, i64_w, i32_w]
    rfl
   refine pure_ (i := 13) (N := some 22) (v := undef) (a' := ?_) (bl 19 16383) rfl rfl (any_of HT_.out (by kernel_rfl)) (fun _ _ _ h => h) (Or.inr ⟨by rfl, rfl⟩) ?_ ?_
   rotate_left
   ·simp only [Act.put, sA, sZ, sS, i64_w, i32_w]
    rfl
   refine pure_ (i := 14) (N := some 23) (v := undef) (a' := ?_) (bl 19 32767) rfl rfl (any_of HT_.out (by kernel_rfl)) (fun _ _ _ h => h) (Or.inr ⟨by rfl, rfl⟩) ?_ ?_
   rotate_left
   ·simp only [Act.put, sA, sZ, sS, i64_w, i32_w]
    rfl
   refine pure_ (i := 15) (N := some 24) (v := undef) (a' := ?_) (bl 19 65535) rfl rfl (any_of HT_.out (by kernel_rfl)) (fun _ _ _ h => h) (Or.inr ⟨by rfl, rfl⟩) ?_ ?_
   rotate_left
   ·simp only [Act.put, sA, sZ, sS, i64_w, i32_w]
    rfl
   refine pure_ (i := 16) (N := some 25) (v := undef) (a' := ?_) (bl 19 131071) rfl rfl (any_of HT_.out (by kernel_rfl)) (fun _ _ _ h => h) (Or.inr ⟨by rfl, rfl⟩) ?_ ?_
   rotate_left
   ·simp only [Act.put, sA, sZ, sS, i64_w, i32_w]
    rfl
   refine pure_ (i := 17) (N := some 26) (v := undef) (a' := ?_) (bl 19 262143) rfl rfl (any_of HT_.out (by kernel_rfl)) (fun _ _ _ h => h) (Or.inr ⟨by rfl, rfl⟩) ?_ ?_
   rotate_left
   ·simp only [Act.put, sA, sZ, sS, i64_w, i32_w]
    rfl
   refine pure_ (i := 18) (N := some 27) (v := ?_) (a' := ?_) (bl 19 524287) rfl rfl (any_of HT_.out (by kernel_rfl)) (fun _ _ _ h => h) (Or.inl ⟨by rfl, ?_⟩) ?_ ?_
   rotate_left
   ·intro w'
    go_simp
    with_reducible rfl
   rotate_left
   ·simp only [Act.put, sA, sZ, sS, i64_w, i32_w]
    rfl
   refine done_ (done_of HT_.out (by kernel_rfl)) ?_
   try go_wp2
   go_meet
   case rel => exact ⟨_, (true), (by first | rfl | (simp; done) | (simp [*]; done)), H', ⟨by first | omega | exact Nat.le_refl _⟩, ⟨by (with_reducible repeat (first | refine bN ?_ _ | refine bD ?_ | refine bA ?_ _)); exact BK101.out⟩, ⟨by (with_reducible repeat (first | refine bN ?_ _ | refine bD ?_ | refine bA ?_ _)); exact BK102.out⟩, ⟨by repeat (first | (with_reducible first | exact HB.out | apply lA | apply lN | apply lD | refine lS ?_ GE101.out | refine lS ?_ GE102.out) | exact HB.out)⟩⟩
 case rest =>
  clear HC5
  try clear c1
  try clear p1
  try clear q1
  try clear hx1
  try clear c2
  try clear p2
  try clear c4
  try clear c9
  try clear p10
  try clear q10
  try clear hx10
  try clear c11
  try clear c12
  try clear c12b0
  try clear c13
  try clear c13b0
  try clear hx105_0
  try clear hx105_1
  try clear hx105_2
  try clear hx105_3
  try clear hx105_4
  try clear hx105_5
  try clear hx105_6
  try clear hx105_7
  try clear p105
  try clear q105
  obtain ⟨kq, x27_4, rfl, HA, HJ4, BK101, BK102, HB⟩ := hcut
  cases kq with
  | zero => exact absurd HA.out (by simp [cfg_Reaches.j0])
  | succ kj4 =>
   have H := HA.out
   clear HA
   simp only [cfg_Reaches.j0] at H
   by_cases c19 : x27_4 = true
   ·subst c19
    have H1 : (some false) = some r := by rw [if_pos rfl] at H; exact H
    clear H
    have H := H1
    clear H1
    obtain rfl := Option.some.inj H
    go_wp2
    go_ret
    exact ⟨by first | rfl | (simp [errW_none, errW_some] <;> rfl) | (simp [*, errW_none, errW_some] <;> rfl), by repeat (first | (with_reducible first | exact HB.out | apply lA | apply lN | apply lD | refine lS ?_ GE101.out | refine lS ?_ GE102.out) | exact HB.out)⟩
   ·replace c19 := Bool.eq_false_iff.mpr c19
    subst c19
    have H1 : ((cfg_Next.f l0 a3).bind fun t107 => ((GReachWays.f kj4 l0 t107 l0 a2).bind fun t110 => (if 0 ≤ a1 then (if a1 < (t110.length : Int) then (some (rdOf false t110 a1)) else (none)) else (none)))) = some r := by rw [if_neg (show ¬ (false = true) by decide)] at H; exact H
    clear H
    have H := H1
    clear H1
    replace H := Option.bind_eq_some_iff.mp H
    obtain ⟨t107, A200, H⟩ := H
    replace H : ((GReachWays.f kj4 l0 t107 l0 a2).bind fun t110 => (if 0 ≤ a1 then (if a1 < (t110.length : Int) then (some (rdOf false t110 a1)) else (none)) else (none))) = some r := H
    have A20 := am A200
    clear A200
    replace H := Option.bind_eq_some_iff.mp H
    obtain ⟨t110, A210, H⟩ := H
    replace H : (if 0 ≤ a1 then (if a1 < (t110.length : Int) then (some (rdOf false t110 a1)) else (none)) else (none)) = some r := H
    have A21 := am A210
    clear A210
    by_cases c22 : 0 ≤ a1
    ·rw [if_pos c22] at H
     have c22b0 : decide (0 ≤ a1) = true := decide_eq_true c22
     clear c22
     by_cases c23 : a1 < (t110.length : Int)
     ·rw [if_pos c23] at H
      have c23b0 : decide (a1 < (t110.length : Int)) = true := decide_eq_true c23
      clear c23
      obtain rfl := Option.some.inj H
      try go_wp2
      replace BK101 := am (blk_drew BK101.out)
      replace BK102 := am (blk_drew BK102.out)
      replace HB := am (below_drew1 HB.out)
      refine start_ (n := 10) (S := fun w' => w'.cell? ⟨gb101, 0, none⟩ = some (.slice A0 l0.length c0)) (ds := []) (bl 10 0) (by kernel_rfl) rfl rfl ((blk_cell BK101.out 0).trans rfl) (fun hHeld => ?_); refine with_tabW cfg_Reaches.tab3 cfg_Reaches.bits3 (fun HT_ HW_ => ?_)
      generalize wc.drew = w24 at BK101 BK102 HB hHeld ⊢
      refine pure_ (i := 2) (N := some 30) (v := ?_) (a' := ?_) (bl 10 4) rfl rfl (any_of HT_.out (by kernel_rfl)) (fun _ _ _ h => h) (Or.inl ⟨by rfl, ?_⟩) ?_ ?_
      rotate_left
      ·intro w'
       go_simp
       with_reducible rfl
      rotate_left
      ·simp only [Act.put, sA, sZ, sS, i64_w, i32_w]
       rfl
      refine pure_ (i := 4) (N := some 32) (v := ?_) (a' := ?_) (bl 10 20) rfl rfl (any_of HT_.out (by kernel_rfl)) (fun _ _ _ h => h) (Or.inl ⟨by rfl, ?_⟩) ?_ ?_
      rotate_left
      ·intro w'
       go_simp
       with_reducible rfl
      rotate_left
      ·simp only [Act.put, sA, sZ, sS, i64_w, i32_w]
       rfl
      refine pure_ (i := 6) (N := some 34) (v := ?_) (a' := ?_) (bl 10 84) rfl rfl (any_of HT_.out (by kernel_rfl)) (fun _ _ _ h => h) (Or.inl ⟨by rfl, ?_⟩) ?_ ?_
      rotate_left
      ·intro w'
       go_simp
       with_reducible rfl
      rotate_left
      ·simp only [Act.put, sA, sZ, sS, i64_w, i32_w]
       rfl
      refine take_ (i := 0) (N := some 28) (v := ?_) (a' := ?_) (bl 10 85) rfl rfl (take_ofW HT_.out HW_.out (by kernel_rfl)) (fun _ _ _ h => h) (Or.inl ⟨by rfl, ?_⟩) hHeld ?_ ?_
      rotate_left
      ·intro w' s0
       go_simp
       with_reducible rfl
      rotate_left
      ·simp only [Act.put, sA, sZ, sS, i64_w, i32_w]
       rfl
      refine take_ (i := 1) (N := some 29) (v := ?_) (a' := ?_) (bl 10 87) rfl rfl (take_ofW HT_.out HW_.out (by kernel_rfl)) (fun _ _ _ h => h) (Or.inl ⟨by rfl, ?_⟩) hHeld ?_ ?_
      rotate_left
      ·intro w' s0
       go_simp
       with_reducible rfl
      rotate_left
      ·simp only [Act.put, sA, sZ, sS, i64_w, i32_w]
       rfl
      refine one_ (i := 3) (N := some 31) (bl 10 95) rfl rfl (one_of HT_.out (by kernel_rfl)) (by decide) (fun K hK => ?_)
      refine goes_ Try.func19 (by kernel_rfl) rfl #[.slice A0 l0.length c0, .int .i64 a3] (by rfl) rfl rfl (by (try simp only [List.map_toArray, List.map_cons, List.map_nil]); first | done | rfl | (simp only [List.length_drop, List.length_take]; rfl)) ?_
      with_reducible refine (cfg_Next.calls _ _ l0 a3 t107 _ ?side1 ?side2 A20.out).mono ?_
      (case side1 => repeat (first | exact (Kd.C_below HR0.out HB.out) | (with_reducible refine Kd.C_alloc ?_ _) | (with_reducible refine Kd.C_drewN ?_ _) | (with_reducible refine Kd.C_drew ?_)))
      (case side2 => exact HC0.out)
      rintro e w25 ⟨v108, rfl, ho0, hb⟩
      refine ⟨_, rfl, ?_⟩
      have HO109 := am (Kd.R_lower ho0 (below_size (by repeat (first | (with_reducible first | exact HB.out | apply lA | apply lN | apply lD | refine lS ?_ GE101.out | refine lS ?_ GE102.out) | exact HB.out))))
      replace BK101 := am (blk_below (g := gb101) (o := .cells #[.slice A0 l0.length c0] 22 (0, 0)) (by (with_reducible repeat (first | refine bN ?_ _ | refine bD ?_ | refine bA ?_ _)); exact BK101.out) hb)
      replace BK102 := am (blk_below (g := gb102) (o := .cells #[.string a2] 9 (0, 0)) (by (with_reducible repeat (first | refine bN ?_ _ | refine bD ?_ | refine bA ?_ _)); exact BK102.out) hb)
      replace HB := am (below_step (by repeat (first | (with_reducible first | exact HB.out | apply lA | apply lN | apply lD | refine lS ?_ GE101.out | refine lS ?_ GE102.out) | exact HB.out)) hb)
      (try clear hb)
      (try clear hb2)
      (try clear hk)
      (try clear hi)
      (try clear ho0)
      obtain ⟨Ao26, co26, eo26⟩ := Kd.R_slice HO109.out
      (first | subst eo26 | (injection eo26 with f1_ f2_ f3_; have f4_ := f1_.symm; have f5_ := f3_.symm; clear f1_ f2_ f3_; subst f4_; subst f5_))
      refine hK.out _ _ ((blk_cell BK101.out 0).trans rfl) (fun hHeld => ?_)
      clear hK K
      refine norm_ (a' := ?_) ?_ ?_
      rotate_left
      ·show Act.put _ (some 31) _ = _
       simp only [Act.put, sA, sZ, sS, i64_w, i32_w]
       rfl
      refine one_ (i := 5) (N := some 33) (bl 10 127) rfl rfl (one_of HT_.out (by kernel_rfl)) (by decide) (fun K hK => ?_)
      refine goes_ Try.func43 (by kernel_rfl) rfl #[.slice A0 l0.length c0, .slice Ao26 t107.length co26, .func (.func 51) #[] #[.pointer (some ⟨gb101, 0, none⟩), .pointer (some ⟨gb102, 0, none⟩)]] (by rfl) rfl rfl (by (try simp only [List.map_toArray, List.map_cons, List.map_nil]); first | done | rfl | (simp only [List.length_drop, List.length_take]; rfl)) ?_
      refine (GReachWays.calls kj4 _ _ l0 _ _ t107 A0 c0 l0 a2 t110 _ ?side1 ?side2 ?side3 ?side4 ?side5 ?side6 ?side7 ?side8 A21.out).mono ?_
      (case side1 => repeat (first | exact (Kd.C_below HR0.out HB.out) | (with_reducible refine Kd.C_alloc ?_ _) | (with_reducible refine Kd.C_drewN ?_ _) | (with_reducible refine Kd.C_drew ?_)))
      (case side2 => exact HC0.out)
      (case side3 => repeat (first | exact (Kd.R_reads' HO109.out).2.2 | (with_reducible refine Kd.C_alloc ?_ _) | (with_reducible refine Kd.C_drewN ?_ _) | (with_reducible refine Kd.C_drew ?_)))
      (case side4 => exact (Kd.R_reads' HO109.out).2.1)
      (case side5 => repeat (first | exact (Kd.C_below HR0.out HB.out) | (with_reducible refine Kd.C_alloc ?_ _) | (with_reducible refine Kd.C_drewN ?_ _) | (with_reducible refine Kd.C_drew ?_)))
      (case side6 => exact HC0.out)
      (case side7 => (with_reducible repeat (first | refine bN ?_ _ | refine bD ?_ | refine bA ?_ _)); exact BK101.out)
      (case side8 => (with_reducible repeat (first | refine bN ?_ _ | refine bD ?_ | refine bA ?_ _)); exact BK102.out)
      rintro e w27 ⟨v111, rfl, ho0, hb⟩
      refine ⟨_, rfl, ?_⟩
      replace HO109 := am (Kd.R_below (by (with_reducible repeat (first | apply Ra | apply Rn | apply Rd)); exact HO109.out) hb)
      have HO112 := am (Kd.R_lower ho0 (below_size (by repeat (first | (with_reducible first | exact HB.out | apply lA | apply lN | apply lD | refine lS ?_ GE101.out | refine lS ?_ GE102.out) | exact HB.out))))
      replace BK101 := am (blk_below (g := gb101) (o := .cells #[.slice A0 l0.length c0] 22 (0, 0)) (by (with_reducible repeat (first | refine bN ?_ _ | refine bD ?_ | refine bA ?_ _)); exact BK101.out) hb)
      replace BK102 := am (blk_below (g := gb102) (o := .cells #[.string a2] 9 (0, 0)) (by (with_reducible repeat (first | refine bN ?_ _ | refine bD ?_ | refine bA ?_ _)); exact BK102.out) hb)
      replace HB := am (below_step (by repeat (first | (with_reducible first | exact HB.out | apply lA | apply lN | apply lD | refine lS ?_ GE101.out | refine lS ?_ GE102.out) | exact HB.out)) hb)
      (try clear hb)
      (try clear hb2)
      (try clear hk)
      (try clear hi)
      (try clear ho0)
      obtain ⟨Ao28, co28, eo28⟩ := Kd.R_slice HO112.out
      (first | subst eo28 | (injection eo28 with f1_ f2_ f3_; have f4_ := f1_.symm; have f5_ := f3_.symm; clear f1_ f2_ f3_; subst f4_; subst f5_))
      have p113 : 0 ≤ (a1 : Int) := of_decide_eq_true (by first | (with_reducible assumption) | assumption)
      have q113 : a1 < (t110.length : Int) := of_decide_eq_true (by first | (with_reducible assumption) | assumption)
      obtain ⟨ad113, e113, hx113_0⟩ := Kd.at_bool (Kd.R_reads' HO112.out).2.2 a1 p113 q113
      cases e113
      replace p113 := eq_true p113
      replace q113 := eq_true q113
      refine hK.out _ _ ((blk_cell BK101.out 0).trans rfl) (fun hHeld => ?_)
      clear hK K
      refine norm_ (a' := ?_) ?_ ?_
      rotate_left
      ·show Act.put _ (some 33) _ = _
       simp only [Act.put, sA, sZ, sS, i64_w, i32_w]
       rfl
      refine pure_ (i := 7) (N := some 35) (v := ?_) (a' := ?_) (bl 10 255) rfl rfl (any_of HT_.out (by kernel_rfl)) (fun _ _ _ h => h) (Or.inl ⟨by rfl, ?_⟩) ?_ ?_
      rotate_left
      ·intro w'
       go_simp
       with_reducible rfl
      rotate_left
      ·simp only [Act.put, sA, sZ, sS, i64_w, i32_w]
       rfl
      refine one_ (i := 8) (N := some 36) (bl 10 511) rfl rfl (one_of HT_.out (by kernel_rfl)) (by decide) (fun K hK => ?_)
      skip
      refine value_ (w1 := ?_) (v := ?_) (by rfl) rfl ?_ ?_
      rotate_left 2
      ·go_simp
       constructor
       ·rfl
       ·rfl
      (try clear hx113_0)
      refine hK.out _ _ ((blk_cell BK101.out 0).trans rfl) (fun hHeld => ?_)
      clear hK K
      refine norm_ (a' := ?_) ?_ ?_
      rotate_left
      ·show Act.put _ (some 36) _ = _
       simp only [Act.put, sA, sZ, sS, i64_w, i32_w]
       rfl
      refine pure_ (i := 9) (N := some 8) (v := ?_) (a' := ?_) (bl 10 1023) rfl rfl (any_of HT_.out (by kernel_rfl)) (fun _ _ _ h => h) (Or.inl ⟨by rfl, ?_⟩) ?_ ?_
      rotate_left
      ·intro w'
       go_simp
       with_reducible rfl
      rotate_left
      ·simp only [Act.put, sA, sZ, sS, i64_w, i32_w]
       rfl
      refine done_ (done_of HT_.out (by kernel_rfl)) ?_
      try go_wp2
      go_ret
      exact ⟨by first | rfl | (simp [errW_none, errW_some] <;> rfl) | (simp [*, errW_none, errW_some] <;> rfl), by repeat (first | (with_reducible first | exact HB.out | apply lA | apply lN | apply lD | refine lS ?_ GE101.out | refine lS ?_ GE102.out) | exact HB.out)⟩
     ·rw [if_neg c23] at H
      exact absurd H (by simp)
    ·rw [if_neg c22] at H
     exact absurd H (by simp)
end Go.Proofs.Ytnepgcbgkhikkaa.H
namespace Go.Proofs.Ytnepgcbgkhikkaa.H
open Go.RowKit Go.Proofs.YtnepgcbgkhikkaaW.PrintWords Go.Proofs.YtnepgcbgkhikkaaW.PrintLast Go.Proofs.YtnepgcbgkhikkaaW.PrintMore
def GLiveWays.f (k : Nat) (l0 : List Stmt) (l1 : List Int) (s : List Stmt) (x : ByteArray) : Option (List Bool) := cfg_ways.f k l0 l1 (keepF s x)
theorem GLiveWays.mono : ∀ a0 a1 a2 a3 k, LeO (GLiveWays.f k a0 a1 a2 a3) (GLiveWays.f (k + 1) a0 a1 a2 a3) := fun a0 a1 a2 a3 k => cfg_ways.mono a0 a1 (keepF a2 a3) k
theorem GLiveWays.calls (k : Nat) (A0 : Option Addr) (c0 : Nat) (l0 : List Stmt) (A1 : Option Addr) (c1 : Nat) (l1 : List Int) (A2 : Option Addr) (c2 : Nat) (l2 : List Stmt) (a3 : ByteArray) (r : List Bool) (w : World) {gl gx : Nat}
    (hr0 : Kd.C k30 w A0 l0.length l0) (hc0 : l0.length ≤ c0) (hr1 : Kd.C (Kd.int .i64) w A1 l1.length l1) (hc1 : l1.length ≤ c1) (hr2 : Kd.C k30 w A2 l2.length l2) (hc2 : l2.length ≤ c2)
    (hbl : w.heap[gl]? = some (.cells #[.slice A2 l2.length c2] 22 (0, 0))) (hbx : w.heap[gx]? = some (.cells #[.string a3] 9 (0, 0))) (h : GLiveWays.f k l0 l1 l2 a3 = some r) :
    Calls Try.prog 43 #[.slice A0 l0.length c0, .slice A1 l1.length c1, .func (.func 44) #[] #[.pointer (some ⟨gl, 0, none⟩), .pointer (some ⟨gx, 0, none⟩)]] w fun e w' => ∃ v0_ : Value, e = .returned v0_ ∧ Kd.R Kd.bool 4 w' w.heap.size (fun _ => True) v0_ r ∧ Below w.heap.size w w' := by
  refine (cfg_ways.calls k A0 c0 l0 A1 c1 l1 44 _ (keepF l2 a3) (enters_of Try.func44 (by kernel_rfl) rfl) r w ?_ hr0 hc0 hr1 hc1 h)
  intro x b W hB hx
  exact keepLive (blk_below hbl hB) (blk_below hbx hB) (Kd.C_below hr2 hB) x b hx
end Go.Proofs.Ytnepgcbgkhikkaa.H
namespace Go.Proofs.Ytnepgcbgkhikkaa.H
open Go.RowKit Go.Proofs.YtnepgcbgkhikkaaW.PrintWords Go.Proofs.YtnepgcbgkhikkaaW.PrintLast Go.Proofs.YtnepgcbgkhikkaaW.PrintMore
attribute [local go_sem] max2_int min2_int max_two min_two max_three min_three max_four min_four
def cfg_Lives.l0 : Nat → List Bool → Int → Int → List (Stmt) → ByteArray → Option (Bool)
 | 0, _, _, _, _, _ => none
 | k + 1, x19, x20, x21, x102000, x103000 => if x21 < x20 then (if 0 ≤ x21 then (if x21 < (x19.length : Int) then (if rdOf false x19 x21 = true then (if x21 < (x102000.length : Int) then ((cfg_Uses.f ((rd_T30 x102000 x21).kind) ((rd_T30 x102000 x21).x) ((rd_T30 x102000 x21).y) ((rd_T30 x102000 x21).z) ((rd_T30 x102000 x21).op) ((rd_T30 x102000 x21).n) ((rd_T30 x102000 x21).a) ((rd_T30 x102000 x21).b)).bind fun t112 => ((slices_Contains_string_string.f k t112 x103000).bind fun t115 => (if t115 = true then (some true) else (cfg_Lives.l0 k x19 x20 (wrap64 (x21 + 1)) x102000 x103000)))) else (none)) else (cfg_Lives.l0 k x19 x20 (wrap64 (x21 + 1)) x102000 x103000)) else (none)) else (none)) else (some false)
def cfg_Lives.f (k : Nat) (l0 : List (Stmt)) (a1 : Int) (a2 : ByteArray) : Option (Bool) := (cfg_within.f l0 a1).bind fun t103 => (if t103 = true then ((GLiveWays.f k l0 (([a1] : List Int)) l0 a2).bind fun t107 => (cfg_Lives.l0 k t107 (t107.length : Int) 0 l0 a2)) else (some false))
theorem cfg_Lives.mono_l : ∀ k, (∀ y0 y1 y2 y3 y4, LeO (cfg_Lives.l0 k y0 y1 y2 y3 y4) (cfg_Lives.l0 (k + 1) y0 y1 y2 y3 y4))
 | 0 => fun _ _ _ _ _ r h => by simp [cfg_Lives.l0] at h
 | k + 1 => by
  have ih0 := cfg_Lives.mono_l k
  ·intro y0 y1 y2 y3 y4
   unfold cfg_Lives.l0
   repeat' first
   | (with_reducible exact ih0 _ _ _ _ _)
   | (with_reducible exact GLiveWays.mono _ _ _ _ _)
   | (with_reducible exact slices_Contains_string_string.mono _ _ _)
   | (with_reducible exact LeO.refl _)
   | (with_reducible exact LeO.none _)
   | (with_reducible refine LeO.ite ?_ ?_)
   | (with_reducible refine LeO.bind ?_ (fun _ => ?_))
   | exact ih0 _ _ _ _ _
   | exact GLiveWays.mono _ _ _ _ _
   | exact slices_Contains_string_string.mono _ _ _
   | exact LeO.none _
   | refine LeO.ite ?_ ?_
   | refine LeO.bind ?_ (fun _ => ?_)
theorem cfg_Lives.mono : ∀ a0 a1 a2 k, LeO (cfg_Lives.f k a0 a1 a2) (cfg_Lives.f (k + 1) a0 a1 a2) := by
 intro a0 a1 a2 k
 have ih0 := cfg_Lives.mono_l k
 unfold cfg_Lives.f
 repeat' first
   | (with_reducible exact ih0 _ _ _ _ _)
   | (with_reducible exact GLiveWays.mono _ _ _ _ _)
   | (with_reducible exact slices_Contains_string_string.mono _ _ _)
   | (with_reducible exact LeO.refl _)
   | (with_reducible exact LeO.none _)
   | (with_reducible refine LeO.ite ?_ ?_)
   | (with_reducible refine LeO.bind ?_ (fun _ => ?_))
   | exact ih0 _ _ _ _ _
   | exact GLiveWays.mono _ _ _ _ _
   | exact slices_Contains_string_string.mono _ _ _
   | exact LeO.none _
   | refine LeO.ite ?_ ?_
   | refine LeO.bind ?_ (fun _ => ?_)
def cfg_Lives.T7 : Bool × List (List Nat × List Nat) := (true, [([], []), ([0], [0]), ([1], [1]), ([1], [1]), ([2, 3, 1], [1, 2, 3]), ([4, 1], [1, 4]), ([5, 1, 1], [1, 5]), ([1], [1]), ([6, 7, 6, 1], [1, 6, 7]), ([1, 8], [1, 8])])
def cfg_Lives.B7 : List Nat := [0, 1, 3, 3, 15, 31, 63, 3, 255, 511]
theorem cfg_Lives.tab7 : rtab .any (opsOf Try.f18 7) = cfg_Lives.T7 := by kernel_rfl
theorem cfg_Lives.bits7 : waitsOk cfg_Lives.T7.2 cfg_Lives.B7 = true := by kernel_rfl
set_option maxHeartbeats 8000000 in
set_option maxRecDepth 100000 in
theorem cfg_Lives.calls (k : Nat) (A0 : Option Addr) (c0 : Nat) (l0 : List (Stmt)) (a1 : Int) (a2 : ByteArray) (r : Bool) (w : World) (hr0 : Kd.C k30 w A0 l0.length l0) (hc0 : l0.length ≤ c0) (h : cfg_Lives.f k l0 a1 a2 = some r) :
  Calls Try.prog 18 #[.slice A0 l0.length c0, .int .i64 a1, .string a2] w fun e w' => e = .returned (.bool r) ∧ Below w.heap.size w w' := by
 have hu30 := Try.underlying30
 have HR0 := am hr0
 have HC0 := am hc0
 clear hr0 hc0
 have HB := am (Below.refl w.heap.size w)
 have H : ((cfg_within.f l0 a1).bind fun t103 => (if t103 = true then ((GLiveWays.f k l0 (([a1] : List Int)) l0 a2).bind fun t107 => (cfg_Lives.l0 k t107 (t107.length : Int) 0 l0 a2)) else (some false))) = some r := h
 clear h
 replace H := Option.bind_eq_some_iff.mp H
 obtain ⟨t103, A40, H⟩ := H
 replace H : (if t103 = true then ((GLiveWays.f k l0 (([a1] : List Int)) l0 a2).bind fun t107 => (cfg_Lives.l0 k t107 (t107.length : Int) 0 l0 a2)) else (some false)) = some r := H
 have A4 := am A40
 clear A40
 by_cases c5 : t103 = true
 ·subst c5
  have H1 : ((GLiveWays.f k l0 (([a1] : List Int)) l0 a2).bind fun t107 => (cfg_Lives.l0 k t107 (t107.length : Int) 0 l0 a2)) = some r := by rw [if_pos rfl] at H; exact H
  clear H
  have H := H1
  clear H1
  obtain ⟨y104, hy104⟩ : ∃ y_ : List Int, y_ = (([a1] : List Int)) := ⟨_, rfl⟩
  replace H : ((GLiveWays.f k l0 y104 l0 a2).bind fun t107 => (cfg_Lives.l0 k t107 (t107.length : Int) 0 l0 a2)) = some r := by first | (rw [hy104]; with_reducible exact H) | (have H2_ := (Option.bind_some _ _).symm.trans H; rw [hy104]; with_reducible exact H2_) | (have H2_ := (Option.bind_some _ _).symm.trans H; with_reducible exact H2_) | with_reducible exact H | (rw [hy104]; exact H) | exact H
  have Ny104 := am hy104
  clear hy104
  replace H := Option.bind_eq_some_iff.mp H
  obtain ⟨t107, A60, H⟩ := H
  replace H : (cfg_Lives.l0 k t107 (t107.length : Int) 0 l0 a2) = some r := H
  have A6 := am A60
  clear A60
  have H' := am H
  clear H
  go_enter Try.func18, Try.ntmps18
  go_wp2_with (first | ((with_reducible refine gate_dst (N := 3) rfl ?_); refine box_event ?hg (N := 3) ?hd (cs := #[.slice A0 l0.length c0]) (t := 22) ?hr ?_; (case hd => rfl); (case hg => rfl); (case hr => first | (go_simp; done) | (go_simp; rfl)); intro gb101 hg w7 hbox hb; have BK101 := am (hbox); have GW101 := am ((by rw [hg]; exact (below_size (by repeat (first | (with_reducible first | exact HB.out | apply lA | apply lN | apply lD) | exact HB.out))) : w.heap.size ≤ gb101)); have GE101 := am ((by rw [hg]; exact (below_size (by repeat (first | (with_reducible first | exact HB.out | apply lA | apply lN | apply lD) | exact HB.out))) : w.heap.size ≤ gb101)); replace HB := am (below_step (by repeat (first | (with_reducible first | exact HB.out | apply lA | apply lN | apply lD) | exact HB.out)) hb); clear hb hbox hg) | ((with_reducible refine gate_dst (N := 5) rfl ?_); refine box_event ?hg (N := 5) ?hd (cs := #[.string a2]) (t := 9) ?hr ?_; (case hd => rfl); (case hg => rfl); (case hr => first | (go_simp; done) | (go_simp; rfl)); intro gb102 hg w8 hbox hb; have BK102 := am (hbox); have GW102 := am ((by rw [hg]; exact (below_size (by repeat (first | (with_reducible first | exact HB.out | apply lA | apply lN | apply lD | refine lS ?_ GE101.out) | exact HB.out))) : w.heap.size ≤ gb102)); have GE102 := am ((by rw [hg]; exact (below_size (by repeat (first | (with_reducible first | exact HB.out | apply lA | apply lN | apply lD | refine lS ?_ GE101.out) | exact HB.out))) : w.heap.size ≤ gb102)); replace HB := am (below_step (by repeat (first | (with_reducible first | exact HB.out | apply lA | apply lN | apply lD | refine lS ?_ GE101.out) | exact HB.out)) hb); have NB101_102 := am ((by rw [hg]; exact Nat.ne_of_lt (blk_lt (g := gb101) (o := .cells #[.slice A0 l0.length c0] 22 (0, 0)) (by (with_reducible repeat (first | refine bN ?_ _ | refine bD ?_ | refine bA ?_ _)); exact BK101.out)) : gb101 ≠ gb102)); have NB102_101 := am ((by rw [hg]; exact Nat.ne_of_gt (blk_lt (g := gb101) (o := .cells #[.slice A0 l0.length c0] 22 (0, 0)) (by (with_reducible repeat (first | refine bN ?_ _ | refine bD ?_ | refine bA ?_ _)); exact BK101.out)) : gb102 ≠ gb101)); replace BK101 := am (blk_below (g := gb101) (o := .cells #[.slice A0 l0.length c0] 22 (0, 0)) (by (with_reducible repeat (first | refine bN ?_ _ | refine bD ?_ | refine bA ?_ _)); exact BK101.out) hb); clear hb hbox hg; have hnb9 := NB101_102.out; have hnc9 := NB102_101.out; have hcz10_0 : w8.cell? ⟨gb101, 0, none⟩ = some (.slice A0 l0.length c0) := (blk_cell BK101.out 0).trans rfl; have hfz10_0 := blk_frozen BK101.out 0) | ((with_reducible refine gate_callee (f := 42) rfl ?_); refine goesL_ (some 12) rfl rfl Try.func42 (by kernel_rfl) rfl #[.slice A0 l0.length c0, .int .i64 a1] rfl (by (try simp only [List.map_toArray, List.map_cons, List.map_nil]); first | done | rfl | (simp only [List.length_drop, List.length_take]; rfl)) ?_; (with_reducible refine (cfg_within.calls _ _ l0 a1 true _ ?side1 ?side2 A4.out).mono ?_); (case side1 => repeat (first | exact (Kd.C_below HR0.out HB.out) | (with_reducible refine Kd.C_alloc ?_ _) | (with_reducible refine Kd.C_drewN ?_ _) | (with_reducible refine Kd.C_drew ?_))); (case side2 => exact HC0.out); rintro e w' ⟨rfl, ⟨nd, rfl⟩⟩; refine ⟨_, rfl, ?_⟩) | ((with_reducible refine gate_dst (N := 16) rfl ?_); refine Kd.R_lit (Kd.int .i64) _ 3 ?hg (N := 16) ?hd (xs := ([a1] : List Int)) (inner := [.int .i64 a1]) (ok := fun _ => True) (okp := fun _ => True) ?hr ?hp (fun _ hk => hk) trivial (Below.refl _ _) (Nat.le_refl _) (by simp) ?_; (case hd => rfl); (case hg => rfl); (case hr => first | (go_simp; done) | (go_simp; rfl)); (case hp => exact (Reps.one (show Kd.M (Kd.int .i64) _ _ _ a1 [.int .i64 a1] from rfl) (Reps.none _ _))); intro v105 w11 ho12 hb hg_ hnew_; clear hg_ hnew_; (first | rw [← Ny104.out] at ho12 | (simp only [Int.reduceToNat] at ho12; rw [← Ny104.out] at ho12)); have HO106 := am (Kd.R_lower ho12 (below_size (by repeat (first | (with_reducible first | exact HB.out | apply lA | apply lN | apply lD | refine lS ?_ GE101.out | refine lS ?_ GE102.out) | exact HB.out)))); replace BK101 := am (blk_below (g := gb101) (o := .cells #[.slice A0 l0.length c0] 22 (0, 0)) (by (with_reducible repeat (first | refine bN ?_ _ | refine bD ?_ | refine bA ?_ _)); exact BK101.out) hb); replace BK102 := am (blk_below (g := gb102) (o := .cells #[.string a2] 9 (0, 0)) (by (with_reducible repeat (first | refine bN ?_ _ | refine bD ?_ | refine bA ?_ _)); exact BK102.out) hb); replace HB := am (below_step (by repeat (first | (with_reducible first | exact HB.out | apply lA | apply lN | apply lD | refine lS ?_ GE101.out | refine lS ?_ GE102.out) | exact HB.out)) hb); clear hb ho12; obtain ⟨Ao13, co13, eo13⟩ := Kd.R_slice HO106.out; subst eo13) | ((with_reducible refine gate_callee (f := 43) rfl ?_); refine goesL_ (some 18) rfl rfl Try.func43 (by kernel_rfl) rfl #[.slice A0 l0.length c0, .slice Ao13 y104.length co13, .func (.func 44) #[] #[.pointer (some ⟨gb101, 0, none⟩), .pointer (some ⟨gb102, 0, none⟩)]] rfl (by (try simp only [List.map_toArray, List.map_cons, List.map_nil]); first | done | rfl | (simp only [List.length_drop, List.length_take]; rfl)) ?_; (refine (GLiveWays.calls k _ _ l0 _ _ y104 A0 c0 l0 a2 t107 _ ?side1 ?side2 ?side3 ?side4 ?side5 ?side6 ?side7 ?side8 A6.out).mono ?_); (case side1 => repeat (first | exact (Kd.C_below HR0.out HB.out) | (with_reducible refine Kd.C_alloc ?_ _) | (with_reducible refine Kd.C_drewN ?_ _) | (with_reducible refine Kd.C_drew ?_))); (case side2 => exact HC0.out); (case side3 => repeat (first | exact (Kd.R_reads' HO106.out).2.2 | (with_reducible refine Kd.C_alloc ?_ _) | (with_reducible refine Kd.C_drewN ?_ _) | (with_reducible refine Kd.C_drew ?_))); (case side4 => exact (Kd.R_reads' HO106.out).2.1); (case side5 => repeat (first | exact (Kd.C_below HR0.out HB.out) | (with_reducible refine Kd.C_alloc ?_ _) | (with_reducible refine Kd.C_drewN ?_ _) | (with_reducible refine Kd.C_drew ?_))); (case side6 => exact HC0.out); (case side7 => (with_reducible repeat (first | refine bN ?_ _ | refine bD ?_ | refine bA ?_ _)); exact BK101.out); (case side8 => (with_reducible repeat (first | refine bN ?_ _ | refine bD ?_ | refine bA ?_ _)); exact BK102.out); rintro e w14 ⟨v108, rfl, ho0, hb⟩; refine ⟨_, rfl, ?_⟩; replace HO106 := am (Kd.R_below (by (with_reducible repeat (first | apply Ra | apply Rn | apply Rd)); exact HO106.out) hb); have HO109 := am (Kd.R_lower ho0 (below_size (by repeat (first | (with_reducible first | exact HB.out | apply lA | apply lN | apply lD | refine lS ?_ GE101.out | refine lS ?_ GE102.out) | exact HB.out)))); replace BK101 := am (blk_below (g := gb101) (o := .cells #[.slice A0 l0.length c0] 22 (0, 0)) (by (with_reducible repeat (first | refine bN ?_ _ | refine bD ?_ | refine bA ?_ _)); exact BK101.out) hb); replace BK102 := am (blk_below (g := gb102) (o := .cells #[.string a2] 9 (0, 0)) (by (with_reducible repeat (first | refine bN ?_ _ | refine bD ?_ | refine bA ?_ _)); exact BK102.out) hb); replace HB := am (below_step (by repeat (first | (with_reducible first | exact HB.out | apply lA | apply lN | apply lD | refine lS ?_ GE101.out | refine lS ?_ GE102.out) | exact HB.out)) hb); (try clear hb); (try clear hb2); (try clear hk); (try clear hi); (try clear ho0); obtain ⟨Ao15, co15, eo15⟩ := Kd.R_slice HO109.out; subst eo15))
  go_loopg [21] k (fun kq v21 w' => ∃ (x21_1 : Int), v21 = .int .i64 x21_1 ∧ Aside0 (cfg_Lives.l0 kq t107 (t107.length : Int) x21_1 l0 a2 = some r) ∧ Aside0 (kq ≤ k) ∧ Aside0 (Kd.R Kd.bool 4 w' w.heap.size (fun _ => True) (.slice Ao15 t107.length co15) t107) ∧ Aside0 (w'.heap[gb101]? = some (.cells #[(.slice A0 l0.length c0)] 22 (0, 0))) ∧ Aside0 (w'.heap[gb102]? = some (.cells #[.string a2] 9 (0, 0))) ∧ Aside0 (Below w.heap.size w w'))
  case atStart => exact ⟨(0), (by first | rfl | (simp; done) | (simp [*]; done)), H', ⟨Nat.le_refl _⟩, ⟨by (with_reducible repeat (first | apply Ra | apply Rn | apply Rd)); exact HO109.out⟩, ⟨by (with_reducible repeat (first | refine bN ?_ _ | refine bD ?_ | refine bA ?_ _)); exact BK101.out⟩, ⟨by (with_reducible repeat (first | refine bN ?_ _ | refine bD ?_ | refine bA ?_ _)); exact BK102.out⟩, ⟨by repeat (first | (with_reducible first | exact HB.out | apply lA | apply lN | apply lD | refine lS ?_ GE101.out | refine lS ?_ GE102.out) | exact HB.out)⟩⟩
  case round =>
   clear H'
   try clear c1
   try clear p2
   try clear c4
   try clear c5
   try clear c9
   try clear hcz10_0
   try clear hfz10_0
   obtain ⟨x21_1, rfl, HA, HK1, HO_19, BK101, BK102, HB⟩ := hrel
   cases gk with
   | zero => exact absurd HA.out (by simp [cfg_Lives.l0])
   | succ k1 =>
    have H := HA.out
    clear HA
    simp only [cfg_Lives.l0] at H
    by_cases c16 : x21_1 < (t107.length : Int)
    ·rw [if_pos c16] at H
     have c16b0 : decide (x21_1 < (t107.length : Int)) = true := decide_eq_true c16
     clear c16
     by_cases c17 : 0 ≤ x21_1
     ·rw [if_pos c17] at H
      have c17b0 : decide (0 ≤ x21_1) = true := decide_eq_true c17
      clear c17
      by_cases c18 : x21_1 < (t107.length : Int)
      ·rw [if_pos c18] at H
       have c18b0 : decide (x21_1 < (t107.length : Int)) = true := decide_eq_true c18
       clear c18
       obtain ⟨bq19, hbq19⟩ : ∃ b_ : Bool, b_ = (rdOf false t107 x21_1) := ⟨_, rfl⟩
       replace H : (if bq19 = true then (if x21_1 < (l0.length : Int) then ((cfg_Uses.f ((rd_T30 l0 x21_1).kind) ((rd_T30 l0 x21_1).x) ((rd_T30 l0 x21_1).y) ((rd_T30 l0 x21_1).z) ((rd_T30 l0 x21_1).op) ((rd_T30 l0 x21_1).n) ((rd_T30 l0 x21_1).a) ((rd_T30 l0 x21_1).b)).bind fun t112 => ((slices_Contains_string_string.f k1 t112 a2).bind fun t115 => (if t115 = true then (some true) else (cfg_Lives.l0 k1 t107 (t107.length : Int) (wrap64 (x21_1 + 1)) l0 a2)))) else (none)) else (cfg_Lives.l0 k1 t107 (t107.length : Int) (wrap64 (x21_1 + 1)) l0 a2)) = some r := by rw [← hbq19] at H; exact H
       have Nbq19 := am hbq19
       clear hbq19
       by_cases c20 : bq19 = true
       ·subst c20
        have H1 : (if x21_1 < (l0.length : Int) then ((cfg_Uses.f ((rd_T30 l0 x21_1).kind) ((rd_T30 l0 x21_1).x) ((rd_T30 l0 x21_1).y) ((rd_T30 l0 x21_1).z) ((rd_T30 l0 x21_1).op) ((rd_T30 l0 x21_1).n) ((rd_T30 l0 x21_1).a) ((rd_T30 l0 x21_1).b)).bind fun t112 => ((slices_Contains_string_string.f k1 t112 a2).bind fun t115 => (if t115 = true then (some true) else (cfg_Lives.l0 k1 t107 (t107.length : Int) (wrap64 (x21_1 + 1)) l0 a2)))) else (none)) = some r := by rw [if_pos rfl] at H; exact H
        clear H
        have H := H1
        clear H1
        by_cases c21 : x21_1 < (l0.length : Int)
        ·rw [if_pos c21] at H
         have c21b0 : decide (x21_1 < (l0.length : Int)) = true := decide_eq_true c21
         clear c21
         replace H := Option.bind_eq_some_iff.mp H
         obtain ⟨t112, A220, H⟩ := H
         replace H : ((slices_Contains_string_string.f k1 t112 a2).bind fun t115 => (if t115 = true then (some true) else (cfg_Lives.l0 k1 t107 (t107.length : Int) (wrap64 (x21_1 + 1)) l0 a2))) = some r := H
         have A22 := am A220
         clear A220
         replace H := Option.bind_eq_some_iff.mp H
         obtain ⟨t115, A230, H⟩ := H
         replace H : (if t115 = true then (some true) else (cfg_Lives.l0 k1 t107 (t107.length : Int) (wrap64 (x21_1 + 1)) l0 a2)) = some r := H
         have A23 := am A230
         clear A230
         by_cases c24 : t115 = true
         ·subst c24
          have H1 : (some true) = some r := by rw [if_pos rfl] at H; exact H
          clear H
          have H := H1
          clear H1
          obtain rfl := Option.some.inj H
          have p110 : 0 ≤ (x21_1 : Int) := of_decide_eq_true (by first | (with_reducible assumption) | assumption)
          have q110 : x21_1 < (t107.length : Int) := of_decide_eq_true (by first | (with_reducible assumption) | assumption)
          obtain ⟨ad110, e110, hx110_0⟩ := Kd.at_bool (Kd.R_reads' HO_19.out).2.2 x21_1 p110 q110
          (try rw [← Nbq19.out] at hx110_0)
          cases e110
          replace p110 := eq_true p110
          replace q110 := eq_true q110
          try go_wp2
          replace HO_19 := am (Kd.R_drew HO_19.out)
          replace BK101 := am (blk_drew BK101.out)
          replace BK102 := am (blk_drew BK102.out)
          replace HB := am (below_drew1 HB.out)
          have p111 : 0 ≤ (x21_1 : Int) := of_decide_eq_true (by first | (with_reducible assumption) | assumption)
          have q111 : x21_1 < (l0.length : Int) := of_decide_eq_true (by first | (with_reducible assumption) | assumption)
          obtain ⟨ad111, e111, hx111_0, hx111_1, hx111_2, hx111_3, hx111_4, hx111_5, hx111_6, hx111_7⟩ := at_T30 HR0.out x21_1 p111 q111
          have hw111_7 := hx111_7
          have hw111_6 := hx111_6
          have hw111_5 := hx111_5
          have hw111_4 := hx111_4
          have hw111_3 := hx111_3
          have hw111_2 := hx111_2
          have hw111_1 := hx111_1
          have hw111_0 := hx111_0
          cases e111
          replace hx111_0 := (HB.out.cell (blt_ hx111_0)).trans hx111_0
          replace hx111_1 := (HB.out.cell (blt_ hx111_1)).trans hx111_1
          replace hx111_2 := (HB.out.cell (blt_ hx111_2)).trans hx111_2
          replace hx111_3 := (HB.out.cell (blt_ hx111_3)).trans hx111_3
          replace hx111_4 := (HB.out.cell (blt_ hx111_4)).trans hx111_4
          replace hx111_5 := (HB.out.cell (blt_ hx111_5)).trans hx111_5
          replace hx111_6 := (HB.out.cell (blt_ hx111_6)).trans hx111_6
          replace hx111_7 := (HB.out.cell (blt_ hx111_7)).trans hx111_7
          replace p111 := eq_true p111
          replace q111 := eq_true q111
          refine start_ (n := 10) (S := fun w' => w'.cell? ⟨gb101, 0, none⟩ = some (.slice (some ad111) l0.length c0) ∧ w'.cell? ⟨gb102, 0, none⟩ = some (.string a2) ∧ w'.cell? (ad111.add ((x21_1).toNat * 8)) = some (.int .i64 ((rd_T30 l0 x21_1).kind)) ∧ w'.cell? ⟨(ad111.add ((x21_1).toNat * 8)).block, (ad111.add ((x21_1).toNat * 8)).off + 1, none⟩ = some (.string ((rd_T30 l0 x21_1).x)) ∧ w'.cell? ⟨(ad111.add ((x21_1).toNat * 8)).block, (ad111.add ((x21_1).toNat * 8)).off + 2, none⟩ = some (.string ((rd_T30 l0 x21_1).y)) ∧ w'.cell? ⟨(ad111.add ((x21_1).toNat * 8)).block, (ad111.add ((x21_1).toNat * 8)).off + 3, none⟩ = some (.string ((rd_T30 l0 x21_1).z)) ∧ w'.cell? ⟨(ad111.add ((x21_1).toNat * 8)).block, (ad111.add ((x21_1).toNat * 8)).off + 4, none⟩ = some (.string ((rd_T30 l0 x21_1).op)) ∧ w'.cell? ⟨(ad111.add ((x21_1).toNat * 8)).block, (ad111.add ((x21_1).toNat * 8)).off + 5, none⟩ = some (.int .i64 ((rd_T30 l0 x21_1).n)) ∧ w'.cell? ⟨(ad111.add ((x21_1).toNat * 8)).block, (ad111.add ((x21_1).toNat * 8)).off + 6, none⟩ = some (.int .i64 ((rd_T30 l0 x21_1).a)) ∧ w'.cell? ⟨(ad111.add ((x21_1).toNat * 8)).block, (ad111.add ((x21_1).toNat * 8)).off + 7, none⟩ = some (.int .i64 ((rd_T30 l0 x21_1).b))) (ds := []) (bl 10 0) (by kernel_rfl) rfl rfl ⟨(blk_cell BK101.out 0).trans rfl, (blk_cell BK102.out 0).trans rfl, ((HB.out.cell (blt_ hw111_0)).trans hw111_0), ((HB.out.cell (blt_ hw111_1)).trans hw111_1), ((HB.out.cell (blt_ hw111_2)).trans hw111_2), ((HB.out.cell (blt_ hw111_3)).trans hw111_3), ((HB.out.cell (blt_ hw111_4)).trans hw111_4), ((HB.out.cell (blt_ hw111_5)).trans hw111_5), ((HB.out.cell (blt_ hw111_6)).trans hw111_6), ((HB.out.cell (blt_ hw111_7)).trans hw111_7)⟩ (fun hHeld => ?_); refine with_tabW cfg_Lives.tab7 cfg_Lives.bits7 (fun HT_ HW_ => ?_)
          generalize wr.drew = w25 at HO_19 BK101 BK102 HB hx111_0 hx111_1 hx111_2 hx111_3 hx111_4 hx111_5 hx111_6 hx111_7 hHeld ⊢
          refine pure_ (i := 0) (N := some 26) (v := ?_) (a' := ?_) (bl 10 1) rfl rfl (any_of HT_.out (by kernel_rfl)) (fun _ _ _ h => h) (Or.inl ⟨by rfl, ?_⟩) ?_ ?_
          rotate_left
          ·intro w'
           go_simp
           with_reducible rfl
          rotate_left
          ·simp only [Act.put, sA, sZ, sS, i64_w, i32_w]
           rfl
          refine pure_ (i := 1) (N := some 27) (v := ?_) (a' := ?_) (bl 10 3) rfl rfl (any_of HT_.out (by kernel_rfl)) (fun _ _ _ h => h) (Or.inl ⟨by rfl, ?_⟩) ?_ ?_
          rotate_left
          ·intro w'
           go_simp
           with_reducible rfl
          rotate_left
          ·simp only [Act.put, sA, sZ, sS, i64_w, i32_w]
           rfl
          refine pure_ (i := 3) (N := some 29) (v := ?_) (a' := ?_) (bl 10 11) rfl rfl (any_of HT_.out (by kernel_rfl)) (fun _ _ _ h => h) (Or.inl ⟨by rfl, ?_⟩) ?_ ?_
          rotate_left
          ·intro w'
           go_simp
           with_reducible rfl
          rotate_left
          ·simp only [Act.put, sA, sZ, sS, i64_w, i32_w]
           rfl
          refine take_ (i := 2) (N := some 28) (v := ?_) (a' := ?_) (bl 10 15) rfl rfl (take_ofW HT_.out HW_.out (by kernel_rfl)) (fun _ _ _ h => h) (Or.inl ⟨by rfl, ?_⟩) hHeld ?_ ?_
          rotate_left
          ·rintro w' ⟨s0, s1, s2, s3, s4, s5, s6, s7, s8, s9⟩
           go_simp
           with_reducible rfl
          rotate_left
          ·simp only [Act.put, sA, sZ, sS, i64_w, i32_w]
           rfl
          refine pure_ (i := 4) (N := some 30) (v := ?_) (a' := ?_) (bl 10 31) rfl rfl (any_of HT_.out (by kernel_rfl)) (fun _ _ _ h => h) (Or.inl ⟨by rfl, ?_⟩) ?_ ?_
          rotate_left
          ·intro w'
           go_simp
           with_reducible rfl
          rotate_left
          ·simp only [Act.put, sA, sZ, sS, i64_w, i32_w]
           rfl
          refine take_ (i := 5) (N := some 31) (v := ?_) (a' := ?_) (bl 10 63) rfl rfl (take_ofW HT_.out HW_.out (by kernel_rfl)) (fun _ _ _ h => h) (Or.inl ⟨by rfl, ?_⟩) hHeld ?_ ?_
          rotate_left
          ·rintro w' ⟨s0, s1, s2, s3, s4, s5, s6, s7, s8, s9⟩
           go_simp
           with_reducible rfl
          rotate_left
          ·simp only [Act.put, sA, sZ, sS, i64_w, i32_w]
           rfl
          refine take_ (i := 7) (N := some 33) (v := ?_) (a' := ?_) (bl 10 191) rfl rfl (take_ofW HT_.out HW_.out (by kernel_rfl)) (fun _ _ _ h => h) (Or.inl ⟨by rfl, ?_⟩) hHeld ?_ ?_
          rotate_left
          ·rintro w' ⟨s0, s1, s2, s3, s4, s5, s6, s7, s8, s9⟩
           go_simp
           with_reducible rfl
          rotate_left
          ·simp only [Act.put, sA, sZ, sS, i64_w, i32_w]
           rfl
          refine one_ (i := 6) (N := some 32) (bl 10 255) rfl rfl (one_of HT_.out (by kernel_rfl)) (by decide) (fun K hK => ?_)
          refine goes_ Try.func22 (by kernel_rfl) rfl #[.agg #[.int .i64 ((rd_T30 l0 x21_1).kind), .string ((rd_T30 l0 x21_1).x), .string ((rd_T30 l0 x21_1).y), .string ((rd_T30 l0 x21_1).z), .string ((rd_T30 l0 x21_1).op), .int .i64 ((rd_T30 l0 x21_1).n), .int .i64 ((rd_T30 l0 x21_1).a), .int .i64 ((rd_T30 l0 x21_1).b)]] (by rfl) rfl rfl (by (try simp only [List.map_toArray, List.map_cons, List.map_nil]); first | done | rfl | (simp only [List.length_drop, List.length_take]; rfl)) ?_
          with_reducible refine (cfg_Uses.calls ((rd_T30 l0 x21_1).kind) ((rd_T30 l0 x21_1).x) ((rd_T30 l0 x21_1).y) ((rd_T30 l0 x21_1).z) ((rd_T30 l0 x21_1).op) ((rd_T30 l0 x21_1).n) ((rd_T30 l0 x21_1).a) ((rd_T30 l0 x21_1).b) t112 _ A22.out).mono ?_
          rintro e w26 ⟨v113, rfl, ho0, hb⟩
          refine ⟨_, rfl, ?_⟩
          replace HO_19 := am (Kd.R_below (by (with_reducible repeat (first | apply Ra | apply Rn | apply Rd)); exact HO_19.out) hb)
          have HO114 := am (Kd.R_lower (Kd.R_newB ho0 (g := gb102) (o := .cells #[.string a2] 9 (0, 0)) (by (with_reducible repeat (first | refine bN ?_ _ | refine bD ?_ | refine bA ?_ _)); exact BK102.out)) (below_size (by repeat (first | (with_reducible first | exact HB.out | apply lA | apply lN | apply lD | refine lS ?_ GE101.out | refine lS ?_ GE102.out) | exact HB.out))))
          replace BK101 := am (blk_below (g := gb101) (o := .cells #[.slice (some ad111) l0.length c0] 22 (0, 0)) (by (with_reducible repeat (first | refine bN ?_ _ | refine bD ?_ | refine bA ?_ _)); exact BK101.out) hb)
          replace BK102 := am (blk_below (g := gb102) (o := .cells #[.string a2] 9 (0, 0)) (by (with_reducible repeat (first | refine bN ?_ _ | refine bD ?_ | refine bA ?_ _)); exact BK102.out) hb)
          replace HB := am (below_step (by repeat (first | (with_reducible first | exact HB.out | apply lA | apply lN | apply lD | refine lS ?_ GE101.out | refine lS ?_ GE102.out) | exact HB.out)) hb)
          (try clear hb)
          (try clear hb2)
          (try clear hk)
          (try clear hi)
          (try clear ho0)
          obtain ⟨Ao27, co27, eo27⟩ := Kd.R_slice HO114.out
          (first | subst eo27 | (injection eo27 with f1_ f2_ f3_; have f4_ := f1_.symm; have f5_ := f3_.symm; clear f1_ f2_ f3_; subst f4_; subst f5_))
          refine hK.out _ _ ⟨(blk_cell BK101.out 0).trans rfl, (blk_cell BK102.out 0).trans rfl, ((HB.out.cell (blt_ hw111_0)).trans hw111_0), ((HB.out.cell (blt_ hw111_1)).trans hw111_1), ((HB.out.cell (blt_ hw111_2)).trans hw111_2), ((HB.out.cell (blt_ hw111_3)).trans hw111_3), ((HB.out.cell (blt_ hw111_4)).trans hw111_4), ((HB.out.cell (blt_ hw111_5)).trans hw111_5), ((HB.out.cell (blt_ hw111_6)).trans hw111_6), ((HB.out.cell (blt_ hw111_7)).trans hw111_7)⟩ (fun hHeld => ?_)
          clear hK K
          refine norm_ (a' := ?_) ?_ ?_
          rotate_left
          ·show Act.put _ (some 32) _ = _
           simp only [Act.put, sA, sZ, sS, i64_w, i32_w]
           rfl
          refine one_ (i := 8) (N := some 34) (bl 10 511) rfl rfl (one_of HT_.out (by kernel_rfl)) (by decide) (fun K hK => ?_)
          refine goes_ Try.func46 (by kernel_rfl) rfl #[.slice Ao27 t112.length co27, .string a2] (by rfl) rfl rfl (by (try simp only [List.map_toArray, List.map_cons, List.map_nil]); first | done | rfl | (simp only [List.length_drop, List.length_take]; rfl)) ?_
          with_reducible refine (slices_Contains_string_string.calls k1 _ _ t112 a2 true _ ?side1 ?side2 A23.out).mono ?_
          (case side1 => repeat (first | exact (Kd.R_reads' HO114.out).2.2 | (with_reducible refine Kd.C_alloc ?_ _) | (with_reducible refine Kd.C_drewN ?_ _) | (with_reducible refine Kd.C_drew ?_)))
          (case side2 => exact (Kd.R_reads' HO114.out).2.1)
          rintro e w' ⟨rfl, ⟨nd, rfl⟩⟩
          refine ⟨_, rfl, ?_⟩
          refine hK.out _ _ ⟨(blk_cell BK101.out 0).trans rfl, (blk_cell BK102.out 0).trans rfl, ((HB.out.cell (blt_ hw111_0)).trans hw111_0), ((HB.out.cell (blt_ hw111_1)).trans hw111_1), ((HB.out.cell (blt_ hw111_2)).trans hw111_2), ((HB.out.cell (blt_ hw111_3)).trans hw111_3), ((HB.out.cell (blt_ hw111_4)).trans hw111_4), ((HB.out.cell (blt_ hw111_5)).trans hw111_5), ((HB.out.cell (blt_ hw111_6)).trans hw111_6), ((HB.out.cell (blt_ hw111_7)).trans hw111_7)⟩ (fun hHeld => ?_)
          clear hK K
          refine norm_ (a' := ?_) ?_ ?_
          rotate_left
          ·show Act.put _ (some 34) _ = _
           simp only [Act.put, sA, sZ, sS, i64_w, i32_w]
           rfl
          refine pure_ (i := 9) (N := some 35) (v := ?_) (a' := ?_) (bl 10 1023) rfl rfl (any_of HT_.out (by kernel_rfl)) (fun _ _ _ h => h) (Or.inl ⟨by rfl, ?_⟩) ?_ ?_
          rotate_left
          ·intro w'
           go_simp
           with_reducible rfl
          rotate_left
          ·simp only [Act.put, sA, sZ, sS, i64_w, i32_w]
           rfl
          refine done_ (done_of HT_.out (by kernel_rfl)) ?_
          try go_wp2
          go_ret
          exact ⟨by first | rfl | (simp [errW_none, errW_some] <;> rfl) | (simp [*, errW_none, errW_some] <;> rfl), by repeat (first | (with_reducible first | exact HB.out | apply lA | apply lN | apply lD | refine lS ?_ GE101.out | refine lS ?_ GE102.out) | exact HB.out)⟩
         ·replace c24 := Bool.eq_false_iff.mpr c24
          subst c24
          have H1 : (cfg_Lives.l0 k1 t107 (t107.length : Int) (wrap64 (x21_1 + 1)) l0 a2) = some r := by rw [if_neg (show ¬ (false = true) by decide)] at H; exact H
          clear H
          have H := H1
          clear H1
          have H' := am H
          clear H
          have p110 : 0 ≤ (x21_1 : Int) := of_decide_eq_true (by first | (with_reducible assumption) | assumption)
          have q110 : x21_1 < (t107.length : Int) := of_decide_eq_true (by first | (with_reducible assumption) | assumption)
          obtain ⟨ad110, e110, hx110_0⟩ := Kd.at_bool (Kd.R_reads' HO_19.out).2.2 x21_1 p110 q110
          (try rw [← Nbq19.out] at hx110_0)
          cases e110
          replace p110 := eq_true p110
          replace q110 := eq_true q110
          try go_wp2
          replace HO_19 := am (Kd.R_drew HO_19.out)
          replace BK101 := am (blk_drew BK101.out)
          replace BK102 := am (blk_drew BK102.out)
          replace HB := am (below_drew1 HB.out)
          have p111 : 0 ≤ (x21_1 : Int) := of_decide_eq_true (by first | (with_reducible assumption) | assumption)
          have q111 : x21_1 < (l0.length : Int) := of_decide_eq_true (by first | (with_reducible assumption) | assumption)
          obtain ⟨ad111, e111, hx111_0, hx111_1, hx111_2, hx111_3, hx111_4, hx111_5, hx111_6, hx111_7⟩ := at_T30 HR0.out x21_1 p111 q111
          have hw111_7 := hx111_7
          have hw111_6 := hx111_6
          have hw111_5 := hx111_5
          have hw111_4 := hx111_4
          have hw111_3 := hx111_3
          have hw111_2 := hx111_2
          have hw111_1 := hx111_1
          have hw111_0 := hx111_0
          cases e111
          replace hx111_0 := (HB.out.cell (blt_ hx111_0)).trans hx111_0
          replace hx111_1 := (HB.out.cell (blt_ hx111_1)).trans hx111_1
          replace hx111_2 := (HB.out.cell (blt_ hx111_2)).trans hx111_2
          replace hx111_3 := (HB.out.cell (blt_ hx111_3)).trans hx111_3
          replace hx111_4 := (HB.out.cell (blt_ hx111_4)).trans hx111_4
          replace hx111_5 := (HB.out.cell (blt_ hx111_5)).trans hx111_5
          replace hx111_6 := (HB.out.cell (blt_ hx111_6)).trans hx111_6
          replace hx111_7 := (HB.out.cell (blt_ hx111_7)).trans hx111_7
          replace p111 := eq_true p111
          replace q111 := eq_true q111
          refine start_ (n := 10) (S := fun w' => w'.cell? ⟨gb101, 0, none⟩ = some (.slice (some ad111) l0.length c0) ∧ w'.cell? ⟨gb102, 0, none⟩ = some (.string a2) ∧ w'.cell? (ad111.add ((x21_1).toNat * 8)) = some (.int .i64 ((rd_T30 l0 x21_1).kind)) ∧ w'.cell? ⟨(ad111.add ((x21_1).toNat * 8)).block, (ad111.add ((x21_1).toNat * 8)).off + 1, none⟩ = some (.string ((rd_T30 l0 x21_1).x)) ∧ w'.cell? ⟨(ad111.add ((x21_1).toNat * 8)).block, (ad111.add ((x21_1).toNat * 8)).off + 2, none⟩ = some (.string ((rd_T30 l0 x21_1).y)) ∧ w'.cell? ⟨(ad111.add ((x21_1).toNat * 8)).block, (ad111.add ((x21_1).toNat * 8)).off + 3, none⟩ = some (.string ((rd_T30 l0 x21_1).z)) ∧ w'.cell? ⟨(ad111.add ((x21_1).toNat * 8)).block, (ad111.add ((x21_1).toNat * 8)).off + 4, none⟩ = some (.string ((rd_T30 l0 x21_1).op)) ∧ w'.cell? ⟨(ad111.add ((x21_1).toNat * 8)).block, (ad111.add ((x21_1).toNat * 8)).off + 5, none⟩ = some (.int .i64 ((rd_T30 l0 x21_1).n)) ∧ w'.cell? ⟨(ad111.add ((x21_1).toNat * 8)).block, (ad111.add ((x21_1).toNat * 8)).off + 6, none⟩ = some (.int .i64 ((rd_T30 l0 x21_1).a)) ∧ w'.cell? ⟨(ad111.add ((x21_1).toNat * 8)).block, (ad111.add ((x21_1).toNat * 8)).off + 7, none⟩ = some (.int .i64 ((rd_T30 l0 x21_1).b))) (ds := []) (bl 10 0) (by kernel_rfl) rfl rfl ⟨(blk_cell BK101.out 0).trans rfl, (blk_cell BK102.out 0).trans rfl, ((HB.out.cell (blt_ hw111_0)).trans hw111_0), ((HB.out.cell (blt_ hw111_1)).trans hw111_1), ((HB.out.cell (blt_ hw111_2)).trans hw111_2), ((HB.out.cell (blt_ hw111_3)).trans hw111_3), ((HB.out.cell (blt_ hw111_4)).trans hw111_4), ((HB.out.cell (blt_ hw111_5)).trans hw111_5), ((HB.out.cell (blt_ hw111_6)).trans hw111_6), ((HB.out.cell (blt_ hw111_7)).trans hw111_7)⟩ (fun hHeld => ?_); refine with_tabW cfg_Lives.tab7 cfg_Lives.bits7 (fun HT_ HW_ => ?_)
          generalize wr.drew = w28 at HO_19 BK101 BK102 HB hx111_0 hx111_1 hx111_2 hx111_3 hx111_4 hx111_5 hx111_6 hx111_7 hHeld ⊢
          refine pure_ (i := 0) (N := some 26) (v := ?_) (a' := ?_) (bl 10 1) rfl rfl (any_of HT_.out (by kernel_rfl)) (fun _ _ _ h => h) (Or.inl ⟨by rfl, ?_⟩) ?_ ?_
          rotate_left
          ·intro w'
           go_simp
           with_reducible rfl
          rotate_left
          ·simp only [Act.put, sA, sZ, sS, i64_w, i32_w]
           rfl
          refine pure_ (i := 1) (N := some 27) (v := ?_) (a' := ?_) (bl 10 3) rfl rfl (any_of HT_.out (by kernel_rfl)) (fun _ _ _ h => h) (Or.inl ⟨by rfl, ?_⟩) ?_ ?_
          rotate_left
          ·intro w'
           go_simp
           with_reducible rfl
          rotate_left
          ·simp only [Act.put, sA, sZ, sS, i64_w, i32_w]
           rfl
          refine pure_ (i := 3) (N := some 29) (v := ?_) (a' := ?_) (bl 10 11) rfl rfl (any_of HT_.out (by kernel_rfl)) (fun _ _ _ h => h) (Or.inl ⟨by rfl, ?_⟩) ?_ ?_
          rotate_left
          ·intro w'
           go_simp
           with_reducible rfl
          rotate_left
          ·simp only [Act.put, sA, sZ, sS, i64_w, i32_w]
           rfl
          refine take_ (i := 2) (N := some 28) (v := ?_) (a' := ?_) (bl 10 15) rfl rfl (take_ofW HT_.out HW_.out (by kernel_rfl)) (fun _ _ _ h => h) (Or.inl ⟨by rfl, ?_⟩) hHeld ?_ ?_
          rotate_left
          ·rintro w' ⟨s0, s1, s2, s3, s4, s5, s6, s7, s8, s9⟩
           go_simp
           with_reducible rfl
          rotate_left
          ·simp only [Act.put, sA, sZ, sS, i64_w, i32_w]
           rfl
          refine pure_ (i := 4) (N := some 30) (v := ?_) (a' := ?_) (bl 10 31) rfl rfl (any_of HT_.out (by kernel_rfl)) (fun _ _ _ h => h) (Or.inl ⟨by rfl, ?_⟩) ?_ ?_
          rotate_left
          ·intro w'
           go_simp
           with_reducible rfl
          rotate_left
          ·simp only [Act.put, sA, sZ, sS, i64_w, i32_w]
           rfl
          refine take_ (i := 5) (N := some 31) (v := ?_) (a' := ?_) (bl 10 63) rfl rfl (take_ofW HT_.out HW_.out (by kernel_rfl)) (fun _ _ _ h => h) (Or.inl ⟨by rfl, ?_⟩) hHeld ?_ ?_
          rotate_left
          ·rintro w' ⟨s0, s1, s2, s3, s4, s5, s6, s7, s8, s9⟩
           go_simp
           with_reducible rfl
          rotate_left
          ·simp only [Act.put, sA, sZ, sS, i64_w, i32_w]
           rfl
          refine take_ (i := 7) (N := some 33) (v := ?_) (a' := ?_) (bl 10 191) rfl rfl (take_ofW HT_.out HW_.out (by kernel_rfl)) (fun _ _ _ h => h) (Or.inl ⟨by rfl, ?_⟩) hHeld ?_ ?_
          rotate_left
          ·rintro w' ⟨s0, s1, s2, s3, s4, s5, s6, s7, s8, s9⟩
           go_simp
           with_reducible rfl
          rotate_left
          ·simp only [Act.put, sA, sZ, sS, i64_w, i32_w]
           rfl
          refine one_ (i := 6) (N := some 32) (bl 10 255) rfl rfl (one_of HT_.out (by kernel_rfl)) (by decide) (fun K hK => ?_)
          refine goes_ Try.func22 (by kernel_rfl) rfl #[.agg #[.int .i64 ((rd_T30 l0 x21_1).kind), .string ((rd_T30 l0 x21_1).x), .string ((rd_T30 l0 x21_1).y), .string ((rd_T30 l0 x21_1).z), .string ((rd_T30 l0 x21_1).op), .int .i64 ((rd_T30 l0 x21_1).n), .int .i64 ((rd_T30 l0 x21_1).a), .int .i64 ((rd_T30 l0 x21_1).b)]] (by rfl) rfl rfl (by (try simp only [List.map_toArray, List.map_cons, List.map_nil]); first | done | rfl | (simp only [List.length_drop, List.length_take]; rfl)) ?_
          with_reducible refine (cfg_Uses.calls ((rd_T30 l0 x21_1).kind) ((rd_T30 l0 x21_1).x) ((rd_T30 l0 x21_1).y) ((rd_T30 l0 x21_1).z) ((rd_T30 l0 x21_1).op) ((rd_T30 l0 x21_1).n) ((rd_T30 l0 x21_1).a) ((rd_T30 l0 x21_1).b) t112 _ A22.out).mono ?_
          rintro e w29 ⟨v113, rfl, ho0, hb⟩
          refine ⟨_, rfl, ?_⟩
          replace HO_19 := am (Kd.R_below (by (with_reducible repeat (first | apply Ra | apply Rn | apply Rd)); exact HO_19.out) hb)
          have HO114 := am (Kd.R_lower (Kd.R_newB ho0 (g := gb102) (o := .cells #[.string a2] 9 (0, 0)) (by (with_reducible repeat (first | refine bN ?_ _ | refine bD ?_ | refine bA ?_ _)); exact BK102.out)) (below_size (by repeat (first | (with_reducible first | exact HB.out | apply lA | apply lN | apply lD | refine lS ?_ GE101.out | refine lS ?_ GE102.out) | exact HB.out))))
          replace BK101 := am (blk_below (g := gb101) (o := .cells #[.slice (some ad111) l0.length c0] 22 (0, 0)) (by (with_reducible repeat (first | refine bN ?_ _ | refine bD ?_ | refine bA ?_ _)); exact BK101.out) hb)
          replace BK102 := am (blk_below (g := gb102) (o := .cells #[.string a2] 9 (0, 0)) (by (with_reducible repeat (first | refine bN ?_ _ | refine bD ?_ | refine bA ?_ _)); exact BK102.out) hb)
          replace HB := am (below_step (by repeat (first | (with_reducible first | exact HB.out | apply lA | apply lN | apply lD | refine lS ?_ GE101.out | refine lS ?_ GE102.out) | exact HB.out)) hb)
          (try clear hb)
          (try clear hb2)
          (try clear hk)
          (try clear hi)
          (try clear ho0)
          obtain ⟨Ao30, co30, eo30⟩ := Kd.R_slice HO114.out
          (first | subst eo30 | (injection eo30 with f1_ f2_ f3_; have f4_ := f1_.symm; have f5_ := f3_.symm; clear f1_ f2_ f3_; subst f4_; subst f5_))
          refine hK.out _ _ ⟨(blk_cell BK101.out 0).trans rfl, (blk_cell BK102.out 0).trans rfl, ((HB.out.cell (blt_ hw111_0)).trans hw111_0), ((HB.out.cell (blt_ hw111_1)).trans hw111_1), ((HB.out.cell (blt_ hw111_2)).trans hw111_2), ((HB.out.cell (blt_ hw111_3)).trans hw111_3), ((HB.out.cell (blt_ hw111_4)).trans hw111_4), ((HB.out.cell (blt_ hw111_5)).trans hw111_5), ((HB.out.cell (blt_ hw111_6)).trans hw111_6), ((HB.out.cell (blt_ hw111_7)).trans hw111_7)⟩ (fun hHeld => ?_)
          clear hK K
          refine norm_ (a' := ?_) ?_ ?_
          rotate_left
          ·show Act.put _ (some 32) _ = _
           simp only [Act.put, sA, sZ, sS, i64_w, i32_w]
           rfl
          refine one_ (i := 8) (N := some 34) (bl 10 511) rfl rfl (one_of HT_.out (by kernel_rfl)) (by decide) (fun K hK => ?_)
          refine goes_ Try.func46 (by kernel_rfl) rfl #[.slice Ao30 t112.length co30, .string a2] (by rfl) rfl rfl (by (try simp only [List.map_toArray, List.map_cons, List.map_nil]); first | done | rfl | (simp only [List.length_drop, List.length_take]; rfl)) ?_
          with_reducible refine (slices_Contains_string_string.calls k1 _ _ t112 a2 false _ ?side1 ?side2 A23.out).mono ?_
          (case side1 => repeat (first | exact (Kd.R_reads' HO114.out).2.2 | (with_reducible refine Kd.C_alloc ?_ _) | (with_reducible refine Kd.C_drewN ?_ _) | (with_reducible refine Kd.C_drew ?_)))
          (case side2 => exact (Kd.R_reads' HO114.out).2.1)
          rintro e w' ⟨rfl, ⟨nd, rfl⟩⟩
          refine ⟨_, rfl, ?_⟩
          refine hK.out _ _ ⟨(blk_cell BK101.out 0).trans rfl, (blk_cell BK102.out 0).trans rfl, ((HB.out.cell (blt_ hw111_0)).trans hw111_0), ((HB.out.cell (blt_ hw111_1)).trans hw111_1), ((HB.out.cell (blt_ hw111_2)).trans hw111_2), ((HB.out.cell (blt_ hw111_3)).trans hw111_3), ((HB.out.cell (blt_ hw111_4)).trans hw111_4), ((HB.out.cell (blt_ hw111_5)).trans hw111_5), ((HB.out.cell (blt_ hw111_6)).trans hw111_6), ((HB.out.cell (blt_ hw111_7)).trans hw111_7)⟩ (fun hHeld => ?_)
          clear hK K
          refine norm_ (a' := ?_) ?_ ?_
          rotate_left
          ·show Act.put _ (some 34) _ = _
           simp only [Act.put, sA, sZ, sS, i64_w, i32_w]
           rfl
          refine pure_ (i := 9) (N := some 35) (v := ?_) (a' := ?_) (bl 10 1023) rfl rfl (any_of HT_.out (by kernel_rfl)) (fun _ _ _ h => h) (Or.inl ⟨by rfl, ?_⟩) ?_ ?_
          rotate_left
          ·intro w'
           go_simp
           with_reducible rfl
          rotate_left
          ·simp only [Act.put, sA, sZ, sS, i64_w, i32_w]
           rfl
          refine done_ (done_of HT_.out (by kernel_rfl)) ?_
          try go_wp2
          go_roundg k1
          case measure => have := HK1.out; omega
          case rel => exact ⟨(wrap64 (x21_1 + 1)), (by first | rfl | (simp; done) | (simp [*]; done)), H', ⟨by have := HK1.out; omega⟩, ⟨by (with_reducible repeat (first | apply Ra | apply Rn | apply Rd)); exact HO_19.out⟩, ⟨by (with_reducible repeat (first | refine bN ?_ _ | refine bD ?_ | refine bA ?_ _)); exact BK101.out⟩, ⟨by (with_reducible repeat (first | refine bN ?_ _ | refine bD ?_ | refine bA ?_ _)); exact BK102.out⟩, ⟨by repeat (first | (with_reducible first | exact HB.out | apply lA | apply lN | apply lD | refine lS ?_ GE101.out | refine lS ?_ GE102.out) | exact HB.out)⟩⟩
        ·rw [if_neg c21] at H
         exact absurd H (by simp)
       ·replace c20 := Bool.eq_false_iff.mpr c20
        subst c20
        have H1 : (cfg_Lives.l0 k1 t107 (t107.length : Int) (wrap64 (x21_1 + 1)) l0 a2) = some r := by rw [if_neg (show ¬ (false = true) by decide)] at H; exact H
        clear H
        have H := H1
        clear H1
        have H' := am H
        clear H
        have p110 : 0 ≤ (x21_1 : Int) := of_decide_eq_true (by first | (with_reducible assumption) | assumption)
        have q110 : x21_1 < (t107.length : Int) := of_decide_eq_true (by first | (with_reducible assumption) | assumption)
        obtain ⟨ad110, e110, hx110_0⟩ := Kd.at_bool (Kd.R_reads' HO_19.out).2.2 x21_1 p110 q110
        (try rw [← Nbq19.out] at hx110_0)
        cases e110
        replace p110 := eq_true p110
        replace q110 := eq_true q110
        try go_wp2
        replace HO_19 := am (Kd.R_drew HO_19.out)
        replace BK101 := am (blk_drew BK101.out)
        replace BK102 := am (blk_drew BK102.out)
        replace HB := am (below_drew1 HB.out)
        refine start_ (n := 10) (S := fun w' => True) (ds := []) (bl 10 0) (by kernel_rfl) rfl rfl trivial (fun hHeld => ?_); refine with_tabW cfg_Lives.tab7 cfg_Lives.bits7 (fun HT_ HW_ => ?_)
        generalize wr.drew = w31 at HO_19 BK101 BK102 HB hHeld ⊢
        refine pure_ (i := 0) (N := some 26) (v := ?_) (a' := ?_) (bl 10 1) rfl rfl (any_of HT_.out (by kernel_rfl)) (fun _ _ _ h => h) (Or.inl ⟨by rfl, ?_⟩) ?_ ?_
        rotate_left
        ·intro w'
         go_simp
         with_reducible rfl
        rotate_left
        ·simp only [Act.put, sA, sZ, sS, i64_w, i32_w]
         rfl
        refine pure_ (i := 1) (N := some 27) (v := ?_) (a' := ?_) (bl 10 3) rfl rfl (any_of HT_.out (by kernel_rfl)) (fun _ _ _ h => h) (Or.inl ⟨by rfl, ?_⟩) ?_ ?_
        rotate_left
        ·intro w'
         go_simp
         with_reducible rfl
        rotate_left
        ·simp only [Act.put, sA, sZ, sS, i64_w, i32_w]
         rfl
        refine pure_ (i := 2) (N := some 28) (v := undef) (a' := ?_) (bl 10 7) rfl rfl (any_of HT_.out (by kernel_rfl)) (fun _ _ _ h => h) (Or.inr ⟨by rfl, rfl⟩) ?_ ?_
        rotate_left
        ·simp only [Act.put, sA, sZ, sS, i64_w, i32_w]
         rfl
        refine pure_ (i := 3) (N := some 29) (v := undef) (a' := ?_) (bl 10 15) rfl rfl (any_of HT_.out (by kernel_rfl)) (fun _ _ _ h => h) (Or.inr ⟨by rfl, rfl⟩) ?_ ?_
        rotate_left
        ·simp only [Act.put, sA, sZ, sS, i64_w, i32_w]
         rfl
        refine pure_ (i := 4) (N := some 30) (v := undef) (a' := ?_) (bl 10 31) rfl rfl (any_of HT_.out (by kernel_rfl)) (fun _ _ _ h => h) (Or.inr ⟨by rfl, rfl⟩) ?_ ?_
        rotate_left
        ·simp only [Act.put, sA, sZ, sS, i64_w, i32_w]
         rfl
        refine pure_ (i := 5) (N := some 31) (v := undef) (a' := ?_) (bl 10 63) rfl rfl (any_of HT_.out (by kernel_rfl)) (fun _ _ _ h => h) (Or.inr ⟨by rfl, rfl⟩) ?_ ?_
        rotate_left
        ·simp only [Act.put, sA, sZ, sS, i64_w, i32_w]
         rfl
        refine pure_ (i := 6) (N := some 32) (v := undef) (a' := ?_) (bl 10 127) rfl rfl (any_of HT_.out (by kernel_rfl)) (fun _ _ _ h => h) (Or.inr ⟨by rfl, rfl⟩) ?_ ?_
        rotate_left
        ·simp only [Act.put, sA, sZ, sS, i64_w, i32_w]
         rfl
        refine pure_ (i := 7) (N := some 33) (v := undef) (a' := ?_) (bl 10 255) rfl rfl (any_of HT_.out (by kernel_rfl)) (fun _ _ _ h => h) (Or.inr ⟨by rfl, rfl⟩) ?_ ?_
        rotate_left
        ·simp only [Act.put, sA, sZ, sS, i64_w, i32_w]
         rfl
        refine pure_ (i := 8) (N := some 34) (v := undef) (a' := ?_) (bl 10 511) rfl rfl (any_of HT_.out (by kernel_rfl)) (fun _ _ _ h => h) (Or.inr ⟨by rfl, rfl⟩) ?_ ?_
        rotate_left
        ·simp only [Act.put, sA, sZ, sS, i64_w, i32_w]
         rfl
        refine pure_ (i := 9) (N := some 35) (v := ?_) (a' := ?_) (bl 10 1023) rfl rfl (any_of HT_.out (by kernel_rfl)) (fun _ _ _ h => h) (Or.inl ⟨by rfl, ?_⟩) ?_ ?_
        rotate_left
        ·intro w'
         go_simp
         with_reducible rfl
        rotate_left
        ·simp only [Act.put, sA, sZ, sS, i64_w, i32_w]
         rfl
        refine done_ (done_of HT_.out (by kernel_rfl)) ?_
        try go_wp2
        go_roundg k1
        case measure => have := HK1.out; omega
        case rel => exact ⟨(wrap64 (x21_1 + 1)), (by first | rfl | (simp; done) | (simp [*]; done)), H', ⟨by have := HK1.out; omega⟩, ⟨by (with_reducible repeat (first | apply Ra | apply Rn | apply Rd)); exact HO_19.out⟩, ⟨by (with_reducible repeat (first | refine bN ?_ _ | refine bD ?_ | refine bA ?_ _)); exact BK101.out⟩, ⟨by (with_reducible repeat (first | refine bN ?_ _ | refine bD ?_ | refine bA ?_ _)); exact BK102.out⟩, ⟨by repeat (first | (with_reducible first | exact HB.out | apply lA | apply lN | apply lD | refine lS ?_ GE101.out | refine lS ?_ GE102.out) | exact HB.out)⟩⟩
      ·rw [if_neg c18] at H
       exact absurd H (by simp)
     ·rw [if_neg c17] at H
      exact absurd H (by simp)
    ·rw [if_neg c16] at H
     have c16b0 : decide (x21_1 < (t107.length : Int)) = false := decide_eq_false c16
     clear c16
     obtain rfl := Option.some.inj H
     go_wp2
     go_ret
     exact ⟨by first | rfl | (simp [errW_none, errW_some] <;> rfl) | (simp [*, errW_none, errW_some] <;> rfl), by repeat (first | (with_reducible first | exact HB.out | apply lA | apply lN | apply lD | refine lS ?_ GE101.out | refine lS ?_ GE102.out) | exact HB.out)⟩
 ·replace c5 := Bool.eq_false_iff.mpr c5
  subst c5
  have H1 : (some false) = some r := by rw [if_neg (show ¬ (false = true) by decide)] at H; exact H
  clear H
  have H := H1
  clear H1
  obtain rfl := Option.some.inj H
  go_enter Try.func18, Try.ntmps18
  go_wp2_with (first | ((with_reducible refine gate_dst (N := 3) rfl ?_); refine box_event ?hg (N := 3) ?hd (cs := #[.slice A0 l0.length c0]) (t := 22) ?hr ?_; (case hd => rfl); (case hg => rfl); (case hr => first | (go_simp; done) | (go_simp; rfl)); intro gb101 hg w32 hbox hb; have BK101 := am (hbox); have GW101 := am ((by rw [hg]; exact (below_size (by repeat (first | (with_reducible first | exact HB.out | apply lA | apply lN | apply lD) | exact HB.out))) : w.heap.size ≤ gb101)); have GE101 := am ((by rw [hg]; exact (below_size (by repeat (first | (with_reducible first | exact HB.out | apply lA | apply lN | apply lD) | exact HB.out))) : w.heap.size ≤ gb101)); replace HB := am (below_step (by repeat (first | (with_reducible first | exact HB.out | apply lA | apply lN | apply lD) | exact HB.out)) hb); clear hb hbox hg) | ((with_reducible refine gate_dst (N := 5) rfl ?_); refine box_event ?hg (N := 5) ?hd (cs := #[.string a2]) (t := 9) ?hr ?_; (case hd => rfl); (case hg => rfl); (case hr => first | (go_simp; done) | (go_simp; rfl)); intro gb102 hg w33 hbox hb; have BK102 := am (hbox); have GW102 := am ((by rw [hg]; exact (below_size (by repeat (first | (with_reducible first | exact HB.out | apply lA | apply lN | apply lD | refine lS ?_ GE101.out) | exact HB.out))) : w.heap.size ≤ gb102)); have GE102 := am ((by rw [hg]; exact (below_size (by repeat (first | (with_reducible first | exact HB.out | apply lA | apply lN | apply lD | refine lS ?_ GE101.out) | exact HB.out))) : w.heap.size ≤ gb102)); replace HB := am (below_step (by repeat (first | (with_reducible first | exact HB.out | apply lA | apply lN | apply lD | refine lS ?_ GE101.out) | exact HB.out)) hb); have NB101_102 := am ((by rw [hg]; exact Nat.ne_of_lt (blk_lt (g := gb101) (o := .cells #[.slice A0 l0.length c0] 22 (0, 0)) (by (with_reducible repeat (first | refine bN ?_ _ | refine bD ?_ | refine bA ?_ _)); exact BK101.out)) : gb101 ≠ gb102)); have NB102_101 := am ((by rw [hg]; exact Nat.ne_of_gt (blk_lt (g := gb101) (o := .cells #[.slice A0 l0.length c0] 22 (0, 0)) (by (with_reducible repeat (first | refine bN ?_ _ | refine bD ?_ | refine bA ?_ _)); exact BK101.out)) : gb102 ≠ gb101)); replace BK101 := am (blk_below (g := gb101) (o := .cells #[.slice A0 l0.length c0] 22 (0, 0)) (by (with_reducible repeat (first | refine bN ?_ _ | refine bD ?_ | refine bA ?_ _)); exact BK101.out) hb); clear hb hbox hg; have hnb34 := NB101_102.out; have hnc34 := NB102_101.out; have hcz35_0 : w33.cell? ⟨gb101, 0, none⟩ = some (.slice A0 l0.length c0) := (blk_cell BK101.out 0).trans rfl; have hfz35_0 := blk_frozen BK101.out 0) | ((with_reducible refine gate_callee (f := 42) rfl ?_); refine goesL_ (some 12) rfl rfl Try.func42 (by kernel_rfl) rfl #[.slice A0 l0.length c0, .int .i64 a1] rfl (by (try simp only [List.map_toArray, List.map_cons, List.map_nil]); first | done | rfl | (simp only [List.length_drop, List.length_take]; rfl)) ?_; (with_reducible refine (cfg_within.calls _ _ l0 a1 false _ ?side1 ?side2 A4.out).mono ?_); (case side1 => repeat (first | exact (Kd.C_below HR0.out HB.out) | (with_reducible refine Kd.C_alloc ?_ _) | (with_reducible refine Kd.C_drewN ?_ _) | (with_reducible refine Kd.C_drew ?_))); (case side2 => exact HC0.out); rintro e w' ⟨rfl, ⟨nd, rfl⟩⟩; refine ⟨_, rfl, ?_⟩))
  go_ret
  exact ⟨by first | rfl | (simp [errW_none, errW_some] <;> rfl) | (simp [*, errW_none, errW_some] <;> rfl), by repeat (first | (with_reducible first | exact HB.out | apply lA | apply lN | apply lD | refine lS ?_ GE101.out | refine lS ?_ GE102.out) | exact HB.out)⟩
def cfg_Prev.l0 : Nat → List (Stmt) → Int → List Int → Int → Int → Option (List Int)
 | 0, _, _, _, _, _ => none
 | k + 1, x0, x1, x5, x8, x9 => if x9 < x8 then ((cfg_Next.f x0 x9).bind fun t101 => ((slices_Contains_int_int.f k t101 x1).bind fun t104 => (if t104 = true then (if x5.length < 17592186044416 then (cfg_Prev.l0 k x0 x1 (x5 ++ [x9]) x8 (wrap64 (x9 + 1))) else (none)) else (cfg_Prev.l0 k x0 x1 x5 x8 (wrap64 (x9 + 1)))))) else (some x5)
def cfg_Prev.f (k : Nat) (l0 : List (Stmt)) (a1 : Int) : Option (List Int) := cfg_Prev.l0 k l0 a1 ([] : List Int) (l0.length : Int) 0
theorem cfg_Prev.mono_l : ∀ k, (∀ y0 y1 y2 y3 y4, LeO (cfg_Prev.l0 k y0 y1 y2 y3 y4) (cfg_Prev.l0 (k + 1) y0 y1 y2 y3 y4))
 | 0 => fun _ _ _ _ _ r h => by simp [cfg_Prev.l0] at h
 | k + 1 => by
  have ih0 := cfg_Prev.mono_l k
  ·intro y0 y1 y2 y3 y4
   unfold cfg_Prev.l0
   repeat' first
   | (with_reducible exact ih0 _ _ _ _ _)
   | (with_reducible exact slices_Contains_int_int.mono _ _ _)
   | (with_reducible exact LeO.refl _)
   | (with_reducible exact LeO.none _)
   | (with_reducible refine LeO.ite ?_ ?_)
   | (with_reducible refine LeO.bind ?_ (fun _ => ?_))
   | exact ih0 _ _ _ _ _
   | exact slices_Contains_int_int.mono _ _ _
   | exact LeO.none _
   | refine LeO.ite ?_ ?_
   | refine LeO.bind ?_ (fun _ => ?_)
theorem cfg_Prev.mono : ∀ a0 a1 k, LeO (cfg_Prev.f k a0 a1) (cfg_Prev.f (k + 1) a0 a1) := by
 intro a0 a1 k
 have ih0 := cfg_Prev.mono_l k
 unfold cfg_Prev.f
 repeat' first
   | (with_reducible exact ih0 _ _ _ _ _)
   | (with_reducible exact slices_Contains_int_int.mono _ _ _)
   | (with_reducible exact LeO.refl _)
   | (with_reducible exact LeO.none _)
   | (with_reducible refine LeO.ite ?_ ?_)
   | (with_reducible refine LeO.bind ?_ (fun _ => ?_))
   | exact ih0 _ _ _ _ _
   | exact slices_Contains_int_int.mono _ _ _
   | exact LeO.none _
   | refine LeO.ite ?_ ?_
   | refine LeO.bind ?_ (fun _ => ?_)
set_option maxHeartbeats 8000000 in
set_option maxRecDepth 100000 in
theorem cfg_Prev.calls (k : Nat) (A0 : Option Addr) (c0 : Nat) (l0 : List (Stmt)) (a1 : Int) (r : List Int) (w : World) (hr0 : Kd.C k30 w A0 l0.length l0) (hc0 : l0.length ≤ c0) (h : cfg_Prev.f k l0 a1 = some r) :
  Calls Try.prog 24 #[.slice A0 l0.length c0, .int .i64 a1] w fun e w' => ∃ v0_ : Value, e = .returned (v0_) ∧ Kd.R (Kd.int .i64) 3 w' w.heap.size (fun _ => True) v0_ r ∧ Below w.heap.size w w' := by
 have HR0 := Aside0.mk hr0
 have HC0 := Aside0.mk hc0
 clear hr0 hc0
 have HB := Aside0.mk (Below.refl w.heap.size w)
 have H : (cfg_Prev.l0 k l0 a1 ([] : List Int) (l0.length : Int) 0) = some r := h
 clear h
 have H' := Aside0.mk H
 clear H
 go_enter Try.func24, Try.ntmps24
 go_wp2
 go_loopg [5, 9] k (fun kq v5 v9 w' => ∃ (x5_1 : List Int) (x9_1 : Int), v9 = .int .i64 x9_1 ∧ Aside0 (cfg_Prev.l0 kq l0 a1 x5_1 (l0.length : Int) x9_1 = some r) ∧ Aside0 (kq ≤ k) ∧ Aside0 (Kd.R (Kd.int .i64) 3 w' w.heap.size (fun _ => True) v5 x5_1) ∧ Aside0 (Below w.heap.size w w'))
 case atStart => exact ⟨(([] : List Int)), (0), (by first | rfl | (simp; done) | (simp [*]; done)), H', ⟨Nat.le_refl _⟩, ⟨by first | exact Kd.R_nil _ _ _ _ _ | exact Kd.N_nil _ _ _ _ _ | exact Kd.V_nil _ _ _ _ _ | exact Kd.Q_nil _ _ _ _ _ | exact Kd.S_nil _ _ _ _ _⟩, ⟨by repeat (first | (with_reducible first | exact HB.out | apply below_alloc | apply pw_below_drewN | apply below_drew1) | exact HB.out)⟩⟩
 case round =>
  clear H'
  try clear c2
  try clear p2
  obtain ⟨x5_1, x9_1, rfl, HA, HK1, HO_5, HB⟩ := hrel
  cases gk with
  | zero => exact absurd HA.out (by simp [cfg_Prev.l0])
  | succ k1 =>
   have H := HA.out
   clear HA
   simp only [cfg_Prev.l0] at H
   by_cases c3 : x9_1 < (l0.length : Int)
   ·rw [if_pos c3] at H
    have c3b0 : decide (x9_1 < (l0.length : Int)) = true := decide_eq_true c3
    clear c3
    replace H := Option.bind_eq_some_iff.mp H
    obtain ⟨t101, A40, H⟩ := H
    replace H : ((slices_Contains_int_int.f k1 t101 a1).bind fun t104 => (if t104 = true then (if x5_1.length < 17592186044416 then (cfg_Prev.l0 k1 l0 a1 (x5_1 ++ [x9_1]) (l0.length : Int) (wrap64 (x9_1 + 1))) else (none)) else (cfg_Prev.l0 k1 l0 a1 x5_1 (l0.length : Int) (wrap64 (x9_1 + 1))))) = some r := H
    have A4 := Aside0.mk A40
    clear A40
    replace H := Option.bind_eq_some_iff.mp H
    obtain ⟨t104, A50, H⟩ := H
    replace H : (if t104 = true then (if x5_1.length < 17592186044416 then (cfg_Prev.l0 k1 l0 a1 (x5_1 ++ [x9_1]) (l0.length : Int) (wrap64 (x9_1 + 1))) else (none)) else (cfg_Prev.l0 k1 l0 a1 x5_1 (l0.length : Int) (wrap64 (x9_1 + 1)))) = some r := H
    have A5 := Aside0.mk A50
    clear A50
    by_cases c6 : t104 = true
    ·subst c6
     have H1 : (if x5_1.length < 17592186044416 then (cfg_Prev.l0 k1 l0 a1 (x5_1 ++ [x9_1]) (l0.length : Int) (wrap64 (x9_1 + 1))) else (none)) = some r := by rw [if_pos rfl] at H; exact H
     clear H
     have H := H1
     clear H1
     by_cases c7 : x5_1.length < 17592186044416
     ·rw [if_pos c7] at H
      have LMc7 := Aside0.mk c7
      clear c7
      obtain ⟨y105, hy105⟩ : ∃ y_ : List Int, y_ = (x5_1 ++ [x9_1]) := ⟨_, rfl⟩
      replace H : (cfg_Prev.l0 k1 l0 a1 y105 (l0.length : Int) (wrap64 (x9_1 + 1))) = some r := by first | (rw [hy105]; with_reducible exact H) | (have H2_ := (Option.bind_some _ _).symm.trans H; rw [hy105]; with_reducible exact H2_) | (have H2_ := (Option.bind_some _ _).symm.trans H; with_reducible exact H2_) | with_reducible exact H | (rw [hy105]; exact H) | exact H
      have Ny105 := Aside0.mk hy105
      clear hy105
      have H' := Aside0.mk H
      clear H
      go_wp2_with (first | ((with_reducible refine gate_callee (f := 19) rfl ?_); refine goesL_ (some 14) rfl rfl Try.func19 (by kernel_rfl) rfl #[.slice A0 l0.length c0, .int .i64 x9_1] rfl (by (try simp only [List.map_toArray, List.map_cons, List.map_nil]); first | done | rfl | (simp only [List.length_drop, List.length_take]; rfl)) ?_; (with_reducible refine (cfg_Next.calls _ _ l0 x9_1 t101 _ ?side1 ?side2 A4.out).mono ?_); (case side1 => repeat (first | exact (Kd.C_below HR0.out HB.out) | (with_reducible refine Kd.C_alloc ?_ _) | (with_reducible refine Kd.C_drewN ?_ _) | (with_reducible refine Kd.C_drew ?_))); (case side2 => exact HC0.out); rintro e w8 ⟨v102, rfl, ho0, hb⟩; refine ⟨_, rfl, ?_⟩; have n0_ := Aside0.mk (Kd.R_elder' (by (with_reducible repeat (first | apply Kd.R_alloc | apply Kd.R_drewN | apply Kd.R_drew)); exact HO_5.out) (Kd.R_base ho0) hb); have n1_ := Aside0.mk (Kd.R_lower (Kd.R_new' ho0 (Kd.R_lt (by (with_reducible repeat (first | apply Kd.R_alloc | apply Kd.R_drewN | apply Kd.R_drew)); exact HO_5.out))) (below_size (by repeat (first | (with_reducible first | exact HB.out | apply below_alloc | apply pw_below_drewN | apply below_drew1) | exact HB.out)))); have n2_ := Aside0.mk (below_step (by repeat (first | (with_reducible first | exact HB.out | apply below_alloc | apply pw_below_drewN | apply below_drew1) | exact HB.out)) hb); clear HO_5; clear HB; have HO_5 := n0_; have HO103 := n1_; have HB := n2_; clear n0_ n1_ n2_; (try clear hb); (try clear hb2); (try clear hk); (try clear hi); (try clear ho0); obtain ⟨Ao9, co9, eo9⟩ := Kd.R_slice HO103.out; subst eo9) | ((with_reducible refine gate_callee (f := 52) rfl ?_); refine goesL_ (some 16) rfl rfl Try.func52 (by kernel_rfl) rfl #[.slice Ao9 t101.length co9, .int .i64 a1] rfl (by (try simp only [List.map_toArray, List.map_cons, List.map_nil]); first | done | rfl | (simp only [List.length_drop, List.length_take]; rfl)) ?_; (with_reducible refine (slices_Contains_int_int.calls k1 _ _ t101 a1 true _ ?side1 ?side2 A5.out).mono ?_); (case side1 => repeat (first | exact (Kd.R_reads' HO103.out).2.2 | (with_reducible refine Kd.C_alloc ?_ _) | (with_reducible refine Kd.C_drewN ?_ _) | (with_reducible refine Kd.C_drew ?_))); (case side2 => exact (Kd.R_reads' HO103.out).2.1); rintro e w' ⟨rfl, ⟨nd, rfl⟩⟩; refine ⟨_, rfl, ?_⟩) | ((with_reducible refine gate_builtin (b := .append) (xs := #[.tmp 17, .tmp 19]) rfl ?_); at_builtin; refine Kd.R_append (Kd.int .i64) (w0 := w) w.heap.size rfl (.tmp 17) (.tmp 19) 25 3 (.int .i64 0) 8 rfl Try.underlying25 info3 rfl (by decide) (by omega) u5 x5_1 x9_1 [.int .i64 x9_1] (fun k_ => some k_ ≠ (.slice Ao9 t101.length co9 : Value).ownBlock) (fun _ => False) rfl rfl ?aP (fun _ hk => hk.elim) ?aF ?aO ?aB ?aS ?aL ?_; (case aP => exact rfl); (case aB => exact (by repeat (first | (with_reducible first | exact HB.out | apply below_alloc | apply pw_below_drewN | apply below_drew1) | exact HB.out))); (case aF => exact (fun k_ hk => Kd.fresh' (Kd.R_lt (by (with_reducible repeat (first | apply Kd.R_alloc | apply Kd.R_drewN | apply Kd.R_drew)); exact HO103.out)) k_ hk)); (case aO => exact (by (with_reducible repeat (first | apply Kd.R_alloc | apply Kd.R_drewN | apply Kd.R_drew)); exact Kd.R_mono HO_5.out (fun _ hk => hk.2))); (case aS => exact (below_size (by repeat (first | (with_reducible first | exact HB.out | apply below_alloc | apply pw_below_drewN | apply below_drew1) | exact HB.out)))); (case aL => have := LMc7.out; omega); intro v106 w10 ho hb hg hat; rw [← Ny105.out] at ho; have n0_ := Aside0.mk (Kd.R_after (ok := (fun _ => True)) (by (with_reducible repeat (first | apply Kd.R_alloc | apply Kd.R_drewN | apply Kd.R_drew)); exact HO103.out) hg hat); have n1_ := Aside0.mk (hb); have n2_ := Aside0.mk (ho); clear HO103; clear HB; clear HO_5; have HO103 := n0_; have HB := n1_; have HO107 := n2_; clear n0_ n1_ n2_; clear ho hb hg hat))
      go_roundg k1
      case measure => have := HK1.out; omega
      case rel => exact ⟨(y105), (wrap64 (x9_1 + 1)), (by first | rfl | (simp; done) | (simp [*]; done)), H', ⟨by have := HK1.out; omega⟩, ⟨by (with_reducible repeat (first | apply Kd.R_alloc | apply Kd.R_drewN | apply Kd.R_drew)); exact Kd.R_mono HO107.out (fun _ hk => trivial)⟩, ⟨by repeat (first | (with_reducible first | exact HB.out | apply below_alloc | apply pw_below_drewN | apply below_drew1) | exact HB.out)⟩⟩
     ·rw [if_neg c7] at H
      exact absurd H (by simp)
    ·replace c6 := Bool.eq_false_iff.mpr c6
     subst c6
     have H1 : (cfg_Prev.l0 k1 l0 a1 x5_1 (l0.length : Int) (wrap64 (x9_1 + 1))) = some r := by rw [if_neg (show ¬ (false = true) by decide)] at H; exact H
     clear H
     have H := H1
     clear H1
     have H' := Aside0.mk H
     clear H
     go_wp2_with (first | ((with_reducible refine gate_callee (f := 19) rfl ?_); refine goesL_ (some 14) rfl rfl Try.func19 (by kernel_rfl) rfl #[.slice A0 l0.length c0, .int .i64 x9_1] rfl (by (try simp only [List.map_toArray, List.map_cons, List.map_nil]); first | done | rfl | (simp only [List.length_drop, List.length_take]; rfl)) ?_; (with_reducible refine (cfg_Next.calls _ _ l0 x9_1 t101 _ ?side1 ?side2 A4.out).mono ?_); (case side1 => repeat (first | exact (Kd.C_below HR0.out HB.out) | (with_reducible refine Kd.C_alloc ?_ _) | (with_reducible refine Kd.C_drewN ?_ _) | (with_reducible refine Kd.C_drew ?_))); (case side2 => exact HC0.out); rintro e w11 ⟨v102, rfl, ho0, hb⟩; refine ⟨_, rfl, ?_⟩; have n0_ := Aside0.mk (Kd.R_elder' (by (with_reducible repeat (first | apply Kd.R_alloc | apply Kd.R_drewN | apply Kd.R_drew)); exact HO_5.out) (Kd.R_base ho0) hb); have n1_ := Aside0.mk (Kd.R_lower (Kd.R_new' ho0 (Kd.R_lt (by (with_reducible repeat (first | apply Kd.R_alloc | apply Kd.R_drewN | apply Kd.R_drew)); exact HO_5.out))) (below_size (by repeat (first | (with_reducible first | exact HB.out | apply below_alloc | apply pw_below_drewN | apply below_drew1) | exact HB.out)))); have n2_ := Aside0.mk (below_step (by repeat (first | (with_reducible first | exact HB.out | apply below_alloc | apply pw_below_drewN | apply below_drew1) | exact HB.out)) hb); clear HO_5; clear HB; have HO_5 := n0_; have HO103 := n1_; have HB := n2_; clear n0_ n1_ n2_; (try clear hb); (try clear hb2); (try clear hk); (try clear hi); (try clear ho0); obtain ⟨Ao12, co12, eo12⟩ := Kd.R_slice HO103.out; subst eo12) | ((with_reducible refine gate_callee (f := 52) rfl ?_); refine goesL_ (some 16) rfl rfl Try.func52 (by kernel_rfl) rfl #[.slice Ao12 t101.length co12, .int .i64 a1] rfl (by (try simp only [List.map_toArray, List.map_cons, List.map_nil]); first | done | rfl | (simp only [List.length_drop, List.length_take]; rfl)) ?_; (with_reducible refine (slices_Contains_int_int.calls k1 _ _ t101 a1 false _ ?side1 ?side2 A5.out).mono ?_); (case side1 => repeat (first | exact (Kd.R_reads' HO103.out).2.2 | (with_reducible refine Kd.C_alloc ?_ _) | (with_reducible refine Kd.C_drewN ?_ _) | (with_reducible refine Kd.C_drew ?_))); (case side2 => exact (Kd.R_reads' HO103.out).2.1); rintro e w' ⟨rfl, ⟨nd, rfl⟩⟩; refine ⟨_, rfl, ?_⟩))
     go_roundg k1
     case measure => have := HK1.out; omega
     case rel => exact ⟨(x5_1), (wrap64 (x9_1 + 1)), (by first | rfl | (simp; done) | (simp [*]; done)), H', ⟨by have := HK1.out; omega⟩, ⟨by (with_reducible repeat (first | apply Kd.R_alloc | apply Kd.R_drewN | apply Kd.R_drew)); exact Kd.R_mono HO_5.out (fun _ hk => trivial)⟩, ⟨by repeat (first | (with_reducible first | exact HB.out | apply below_alloc | apply pw_below_drewN | apply below_drew1) | exact HB.out)⟩⟩
   ·rw [if_neg c3] at H
    have c3b0 : decide (x9_1 < (l0.length : Int)) = false := decide_eq_false c3
    clear c3
    obtain rfl := Option.some.inj H
    go_wp2
    go_ret
    exact ⟨_, by first | rfl | (simp [errW_none, errW_some] <;> rfl) | (simp [*, errW_none, errW_some] <;> rfl), by (with_reducible repeat (first | apply Kd.R_alloc | apply Kd.R_drewN | apply Kd.R_drew)); exact HO_5.out, by repeat (first | (with_reducible first | exact HB.out | apply below_alloc | apply pw_below_drewN | apply below_drew1) | exact HB.out)⟩
end Go.Proofs.Ytnepgcbgkhikkaa.H
namespace Go.Proofs.Ytnepgcbgkhikkaa.H
open Go.RowKit Go.Proofs.YtnepgcbgkhikkaaW.PrintWords
theorem srt1 (a : Int) : compactI (sortI [a]) = [a] := by
  simp [compactI, sortI, Go.Lib.compact, Go.Lib.compactUpTo, Go.Lib.keeps, List.filter, List.range_succ]
theorem sort2 (a b : Int) : sortI [a, b] = if a ≤ b then [a, b] else [b, a] := by
  unfold sortI
  by_cases h : a ≤ b
  · rw [if_pos h]
    apply List.mergeSort_of_pairwise
    simp [h]
  · rw [if_neg h]
    have hp := List.mergeSort_perm [a, b] (fun x y => decide (x ≤ y))
    have hs := List.pairwise_mergeSort (le := fun x y : Int => decide (x ≤ y)) (by intro a b c; simp; omega) (by intro a b; simp; omega) [a, b]
    refine List.Perm.eq_of_pairwise (le := fun x y => decide (x ≤ y) = true) ?_ hs ?_ (hp.trans (List.Perm.swap _ _ _))
    · intro x y _ _ h1 h2; simp at h1 h2; omega
    · simp; omega
def srtI2 (a b : Int) : List Int := if a < b then [a, b] else if a = b then [a] else [b, a]
theorem srt2 (a b : Int) : compactI (sortI [a, b]) = srtI2 a b := by
  rw [sort2, srtI2]
  by_cases h : a ≤ b
  · rw [if_pos h]
    by_cases h1 : a = b
    · subst h1; simp [compactI, Go.Lib.compact, Go.Lib.compactUpTo, Go.Lib.keeps, List.filter, List.range_succ]
    · have : ¬ b = a := fun e => h1 e.symm
      simp [compactI, Go.Lib.compact, Go.Lib.compactUpTo, Go.Lib.keeps, List.filter, List.range_succ, show a < b by omega, h1, this]
  · have h1 : ¬ a = b := by omega
    have h2 : ¬ b = a := by omega
    rw [if_neg h]; simp [compactI, Go.Lib.compact, Go.Lib.compactUpTo, Go.Lib.keeps, List.filter, List.range_succ, show ¬ a < b by omega, h1, h2]
theorem sortedI1 (a : Int) : cfg_sorted_int.f [a] = some [a] := by
  simp [cfg_sorted_int.f, slices_Clone_int_int.f, slices_Sort_int_int.f, slices_Compact_int_int.f, srt1]
theorem sortedI2 (a b : Int) : cfg_sorted_int.f [a, b] = some (srtI2 a b) := by
  simp [cfg_sorted_int.f, slices_Clone_int_int.f, slices_Sort_int_int.f, slices_Compact_int_int.f, srt2]
def nxtRaw (st : Stmt) (n : Int) : List Int := if st.kind = 7 then srtI2 st.a st.b else if st.kind = 8 then [st.a] else if st.kind = 9 then [] else [wrap64 (n + 1)]
def at_ (s : List Stmt) (n : Int) : Stmt := rd_T30 s n
def nxt (s : List Stmt) (n : Int) : List Int := if 0 ≤ n ∧ n < (s.length : Int) then (nxtRaw (at_ s n) n).filter (withinB s.length) else []
theorem Next_eq (s : List Stmt) (n : Int) : cfg_Next.f s n = some (nxt s n) := by
  unfold cfg_Next.f nxt
  rw [within_eq]
  by_cases h0 : 0 ≤ n
  · by_cases h1 : n < (s.length : Int)
    · rw [if_pos (show 0 ≤ n ∧ n < (s.length : Int) from ⟨h0, h1⟩), show withinB s.length n = true by simp [withinB, h0, h1]]
      simp only [Option.bind_some, if_true, if_pos h0, if_pos h1, sortedI1, sortedI2, GNextDel.f]
      change _ = some (List.filter (withinB s.length) (nxtRaw (rd_T30 s n) n))
      unfold nxtRaw
      by_cases k7 : (rd_T30 s n).kind = 7
      · rw [if_pos k7, if_pos k7]
      · rw [if_neg k7, if_neg k7]
        by_cases k8 : (rd_T30 s n).kind = 8
        · rw [if_pos k8, if_pos k8]
        · rw [if_neg k8, if_neg k8]
          by_cases k9 : (rd_T30 s n).kind = 9
          · rw [if_pos k9, if_pos k9]
          · rw [if_neg k9, if_neg k9]
    · rw [if_neg (show ¬ (0 ≤ n ∧ n < (s.length : Int)) from fun h => h1 h.2), show withinB s.length n = false by simp [withinB, h1]]
      simp
  · rw [if_neg (show ¬ (0 ≤ n ∧ n < (s.length : Int)) from fun h => h0 h.1), show withinB s.length n = false by simp [withinB, h0]]
    simp
theorem nxt_within {s : List Stmt} {n m : Int} (h : m ∈ nxt s n) : 0 ≤ m ∧ m < (s.length : Int) ∧ 0 ≤ n ∧ n < (s.length : Int) := by
  unfold nxt at h
  split at h
  case isFalse => simp at h
  rename_i hn
  have := (List.mem_filter.1 h).2
  simp [withinB] at this
  omega
theorem nxt_len (s : List Stmt) (n : Int) : (nxt s n).length ≤ 2 := by
  unfold nxt
  split
  · refine Nat.le_trans (List.length_filter_le _ _) ?_
    unfold nxtRaw srtI2
    repeat' split
    all_goals simp
  · simp
theorem nxt_inc (s : List Stmt) (n : Int) : (nxt s n).Pairwise (· < ·) := by
  unfold nxt
  split
  · refine List.Pairwise.filter _ ?_
    unfold nxtRaw srtI2
    repeat' split
    all_goals simp
    all_goals omega
  · simp
def prv (s : List Stmt) (n : Int) : List Int := ((List.range s.length).map fun m : Nat => (m : Int)).filter fun m => decide (n ∈ nxt s m)
theorem mem_prv {s : List Stmt} {n m : Int} : m ∈ prv s n ↔ n ∈ nxt s m := by
  unfold prv
  rw [List.mem_filter]
  constructor
  · rintro ⟨-, h⟩; simpa using h
  · intro h
    have hw := nxt_within h
    exact ⟨List.mem_map.2 ⟨m.toNat, List.mem_range.2 (by omega), by omega⟩, by simpa using h⟩
theorem prv_len (s : List Stmt) (n : Int) : (prv s n).length ≤ s.length := by
  unfold prv
  exact Nat.le_trans (List.length_filter_le _ _) (by simp)
theorem Prev_l0 (s : List Stmt) (n : Int) (hs : s.length ≤ 1000000) : ∀ (d i : Nat) (acc : List Int), i + d = s.length → acc.length ≤ i →
    Ev (fun k => cfg_Prev.l0 k s n acc (s.length : Int) i) (acc ++ (((List.range' i d).map fun m : Nat => (m : Int)).filter fun m => decide (n ∈ nxt s m)))
  | 0, i, acc, e, ha => by
    refine Ev.step (fun k => by rw [cfg_Prev.l0]) ?_
    exact Ev.neg (by omega) (Ev.some (by simp))
  | d + 1, i, acc, e, ha => by
    refine Ev.step (fun k => by rw [cfg_Prev.l0]) ?_
    refine Ev.pos (by omega) (Ev.pure (Next_eq s i) (Ev.bind (ContainsI_ev _ _ (by have := nxt_len s i; omega)) ?_))
    rw [wrap_up (by omega)]
    by_cases c : n ∈ nxt s i
    · rw [decide_eq_true c]
      exact Ev.pos rfl (Ev.pos (by omega) (Ev.iff (Prev_l0 s n hs d (i + 1) _ (by omega) (by simp; omega)) (by simp [List.range'_succ, c])))
    · rw [decide_eq_false c]
      exact Ev.neg (by simp) (Ev.iff (Prev_l0 s n hs d (i + 1) _ (by omega) (by omega)) (by simp [List.range'_succ, c]))
theorem Prev_ev (s : List Stmt) (n : Int) (hs : s.length ≤ 1000000) : Ev (fun k => cfg_Prev.f k s n) (prv s n) :=
  Ev.iff (Prev_l0 s n hs s.length 0 [] (by omega) (by simp)) (by simp [prv, List.range_eq_range'])
inductive Rch (s : List Stmt) (on : Int → Bool) (fr : List Int) : Int → Prop
  | base {n : Int} : n ∈ fr → Rch s on fr n
  | step {m n : Int} : Rch s on fr m → on m = true → n ∈ nxt s m → Rch s on fr n
theorem count_set {l : List Bool} {i : Nat} (h : l[i]? = some false) : (l.set i true).count false + 1 = l.count false := by
  obtain ⟨hi, he⟩ := List.getElem?_eq_some_iff.1 h
  rw [List.count_set hi, he]
  have : 0 < l.count false := List.count_pos_iff.2 (he ▸ List.getElem_mem hi)
  simp
  omega
theorem ways_l0 (s : List Stmt) (on : OnFn) (onB : Int → Bool) (hon : ∀ m : Int, 0 ≤ m → m < (s.length : Int) → on m = some (onB m)) (fr : List Int) (hfr : ∀ f ∈ fr, 0 ≤ f ∧ f < (s.length : Int)) : ∀ (M : Nat) (seen : List Bool) (todo : List Int),
    3 * seen.count false + todo.length ≤ M → M ≤ 1000000 → seen.length = s.length → (∀ t ∈ todo, 0 ≤ t ∧ t < (s.length : Int) ∧ Rch s onB fr t) → (∀ i : Nat, seen[i]? = some true → Rch s onB fr i) →
    (∀ f ∈ fr, f ∈ todo ∨ seen[f.toNat]? = some true) → (∀ i : Nat, seen[i]? = some true → onB i = true → ∀ j ∈ nxt s i, j ∈ todo ∨ seen[j.toNat]? = some true) →
    ∃ r, Ev (fun k => cfg_ways.l0 k s on seen todo) r ∧ r.length = s.length ∧ ∀ i : Nat, (r[i]? = some true ↔ Rch s onB fr i)
  | M, seen, [], hM, hm, hl, ht, h1, h2, h3 => by
    refine ⟨seen, Ev.step (fun k => by rw [cfg_ways.l0]) (Ev.neg (by simp) (Ev.now _)), hl, fun i => ⟨h1 i, fun h => ?_⟩⟩
    have key : ∀ n : Int, Rch s onB fr n → 0 ≤ n ∧ seen[n.toNat]? = some true := by
      intro n hn
      induction hn with
      | base hf =>
        rcases h2 _ hf with h | h
        · simp at h
        · exact ⟨(hfr _ hf).1, h⟩
      | step _ ho hj ih =>
        rename_i m n _
        have hw := nxt_within hj
        obtain ⟨i0, rfl⟩ : ∃ q : Nat, m = (q : Int) := ⟨m.toNat, by omega⟩
        rw [Int.toNat_natCast] at ih
        rcases h3 _ ih.2 ho _ hj with h | h
        · simp at h
        · exact ⟨hw.1, h⟩
    have := (key i h).2
    rwa [Int.toNat_natCast] at this
  | 0, seen, n :: t, hM, hm, hl, ht, h1, h2, h3 => by simp at hM
  | M + 1, seen, n :: t, hM, hm, hl, ht, h1, h2, h3 => by
    obtain ⟨hn0, hn1, hnR⟩ := ht n (by simp)
    obtain ⟨i, rfl⟩ : ∃ q : Nat, n = (q : Int) := ⟨n.toNat, by omega⟩
    have hi : i < seen.length := by omega
    have hlen : t.length + 1 + 3 * seen.count false ≤ M + 1 := by simp at hM; omega
    have go : ∀ {r : List Bool} {c : Bool}, seen[i]? = some c → (c = true → Ev (fun k => cfg_ways.l0 k s on seen t) r) → (c = false → onB i = true → Ev (fun k => cfg_ways.l0 k s on (seen.set i true) (t ++ nxt s i)) r) → (c = false → onB i = false → Ev (fun k => cfg_ways.l0 k s on (seen.set i true) t) r) → Ev (fun k => cfg_ways.l0 k s on seen ((i : Int) :: t)) r := by
      intro r c hc k1 k2 k3
      refine Ev.step (fun k => by rw [cfg_ways.l0]) ?_
      have e0 : rd ((i : Int) :: t) 0 = (i : Int) := rfl
      refine Ev.pos (by simp <;> omega) (Ev.pos (by simp <;> omega) (Ev.pos (by simp <;> omega) ?_))
      refine Ev.pure rfl ?_
      rw [e0]
      refine Ev.pos (by omega) (Ev.pos (by omega) ?_)
      rw [show rdOf false seen (i : Int) = c from getD_at hc _]
      cases c with
      | true => exact Ev.pos rfl (k1 rfl)
      | false =>
        refine Ev.neg (by simp) (Ev.pure rfl (Ev.pure (hon i (by omega) (by omega)) ?_))
        cases ho : onB i with
        | true =>
          refine Ev.pos rfl (Ev.pure (Next_eq s i) (Ev.pos ?_ (k2 rfl ho)))
          have := nxt_len s i
          simp
          omega
        | false => exact Ev.neg (by simp) (k3 rfl ho)
    cases hc : seen[i]? with
    | none => rw [List.getElem?_eq_none_iff] at hc; omega
    | some c =>
      cases c with
      | true =>
        have b1 : ∀ f ∈ fr, f ∈ t ∨ seen[f.toNat]? = some true := by
          intro f hf
          rcases h2 f hf with h | h
          · rcases List.mem_cons.1 h with h | h
            · exact .inr (by rw [h, Int.toNat_natCast]; exact hc)
            · exact .inl h
          · exact .inr h
        have b2 : ∀ j : Nat, seen[j]? = some true → onB j = true → ∀ q ∈ nxt s j, q ∈ t ∨ seen[q.toNat]? = some true := by
          intro j hj ho q hq
          rcases h3 j hj ho q hq with h | h
          · rcases List.mem_cons.1 h with h | h
            · exact .inr (by rw [h, Int.toNat_natCast]; exact hc)
            · exact .inl h
          · exact .inr h
        obtain ⟨r, hr, hrl, hri⟩ := ways_l0 s on onB hon fr hfr M seen t (by omega) (by omega) hl (fun x hx => ht x (by simp [hx])) h1 b1 b2
        exact ⟨r, go hc (fun _ => hr) (by simp) (by simp), hrl, hri⟩
      | false =>
        have hcs := count_set hc
        have set_at : ∀ j : Nat, (seen.set i true)[j]? = some true ↔ j = i ∨ seen[j]? = some true := by
          intro j
          rw [List.getElem?_set]
          by_cases e : i = j
          · subst e; simp [hi]
          · have e' : ¬ j = i := fun h => e h.symm
            simp [e, e']
        have hsR : ∀ j : Nat, (seen.set i true)[j]? = some true → Rch s onB fr j := by
          intro j hj
          rcases (set_at j).1 hj with rfl | hj
          · exact hnR
          · exact h1 j hj
        cases ho : onB i with
        | true =>
          have hnl := nxt_len s i
          have b0 : ∀ x ∈ t ++ nxt s i, 0 ≤ x ∧ x < (s.length : Int) ∧ Rch s onB fr x := by
            intro x hx
            rcases List.mem_append.1 hx with hx | hx
            · exact ht x (by simp [hx])
            · have hw := nxt_within hx
              exact ⟨hw.1, hw.2.1, .step hnR ho hx⟩
          have b1 : ∀ f ∈ fr, f ∈ t ++ nxt s i ∨ (seen.set i true)[f.toNat]? = some true := by
            intro f hf
            rcases h2 f hf with h | h
            · rcases List.mem_cons.1 h with h | h
              · exact .inr ((set_at _).2 (.inl (by rw [h, Int.toNat_natCast])))
              · exact .inl (by simp [h])
            · exact .inr ((set_at _).2 (.inr h))
          have b2 : ∀ j : Nat, (seen.set i true)[j]? = some true → onB j = true → ∀ q ∈ nxt s j, q ∈ t ++ nxt s i ∨ (seen.set i true)[q.toNat]? = some true := by
            intro j hj hoj q hq
            rcases (set_at j).1 hj with rfl | hj
            · exact .inl (by simp [hq])
            · rcases h3 j hj hoj q hq with h | h
              · rcases List.mem_cons.1 h with h | h
                · exact .inr ((set_at _).2 (.inl (by rw [h, Int.toNat_natCast])))
                · exact .inl (by simp [h])
              · exact .inr ((set_at _).2 (.inr h))
          obtain ⟨r, hr, hrl, hri⟩ := ways_l0 s on onB hon fr hfr M (seen.set i true) (t ++ nxt s i) (by simp; omega) (by omega) (by simpa using hl) b0 hsR b1 b2
          exact ⟨r, go hc (by simp) (fun _ _ => hr) (by simp [ho]), hrl, hri⟩
        | false =>
          have b1 : ∀ f ∈ fr, f ∈ t ∨ (seen.set i true)[f.toNat]? = some true := by
            intro f hf
            rcases h2 f hf with h | h
            · rcases List.mem_cons.1 h with h | h
              · exact .inr ((set_at _).2 (.inl (by rw [h, Int.toNat_natCast])))
              · exact .inl h
            · exact .inr ((set_at _).2 (.inr h))
          have b2 : ∀ j : Nat, (seen.set i true)[j]? = some true → onB j = true → ∀ q ∈ nxt s j, q ∈ t ∨ (seen.set i true)[q.toNat]? = some true := by
            intro j hj hoj q hq
            rcases (set_at j).1 hj with rfl | hj
            · simp [ho] at hoj
            · rcases h3 j hj hoj q hq with h | h
              · rcases List.mem_cons.1 h with h | h
                · exact .inr ((set_at _).2 (.inl (by rw [h, Int.toNat_natCast])))
                · exact .inl h
              · exact .inr ((set_at _).2 (.inr h))
          obtain ⟨r, hr, hrl, hri⟩ := ways_l0 s on onB hon fr hfr M (seen.set i true) t (by omega) (by omega) (by simpa using hl) (fun x hx => ht x (by simp [hx])) hsR b1 b2
          exact ⟨r, go hc (by simp) (by simp [ho]) (fun _ _ => hr), hrl, hri⟩
theorem ways_ev (s : List Stmt) (on : OnFn) (onB : Int → Bool) (hon : ∀ m : Int, 0 ≤ m → m < (s.length : Int) → on m = some (onB m)) (fr : List Int) (hfr : ∀ f ∈ fr, 0 ≤ f ∧ f < (s.length : Int)) (hs : s.length ≤ 1000) (hl : fr.length ≤ 1000) :
    ∃ r, Ev (fun k => cfg_ways.f k s fr on) r ∧ r.length = s.length ∧ ∀ i : Nat, (r[i]? = some true ↔ Rch s onB fr i) := by
  obtain ⟨r, hr, h⟩ := ways_l0 s on onB hon fr hfr 10000 (List.replicate s.length false) fr (by simp; omega) (by omega) (by simp) (fun t ht => ⟨(hfr t ht).1, (hfr t ht).2, .base ht⟩) (fun i hi => by simp [List.getElem?_replicate] at hi) (fun f hf => .inl hf) (fun i hi => by simp [List.getElem?_replicate] at hi)
  refine ⟨r, ?_, h⟩
  unfold cfg_ways.f
  refine Ev.pos (by omega) (Ev.pos (by omega) (Ev.pure (a := fr) (by unfold slices_Clone_int_int.f; rw [if_pos (by omega)]) ?_))
  rwa [Int.toNat_natCast]
theorem bytesLess_swap (a b : List UInt8) : (!(Op.bytesLess a b || a == b)) = Op.bytesLess b a := by
  induction a generalizing b with
  | nil => cases b <;> simp [Op.bytesLess]
  | cons x a ih =>
    cases b with
    | nil => simp [Op.bytesLess]
    | cons y b =>
      by_cases h : x = y
      · subst h
        have := ih b
        simp [Op.bytesLess] at this ⊢
        exact this
      · have h2 : ¬ y = x := fun e => h e.symm
        rw [Bool.eq_iff_iff]
        simp [Op.bytesLess, h, h2]
        have hn : x.toNat ≠ y.toNat := fun e => h (UInt8.toNat_inj.1 e)
        rw [UInt8.le_iff_toNat_le, UInt8.lt_iff_toNat_lt]
        omega
theorem bytesLeq_swap (a b : List UInt8) : (Op.bytesLess a b || a == b) = !Op.bytesLess b a := by rw [← bytesLess_swap a b, Bool.not_not]
@[go_sem high] theorem binOp_string_gtr_sw (t : TypeId) (a b : ByteArray) : binOp .gtr t (.string a) (.string b) = pure (.bool (Op.bytesLess b.toList a.toList)) := by
  rw [← bytesLess_swap]; simp [binOp, Op.stringOp]
@[go_sem high] theorem binOp_string_leq_sw (t : TypeId) (a b : ByteArray) : binOp .leq t (.string a) (.string b) = pure (.bool !(Op.bytesLess b.toList a.toList)) := by
  rw [← bytesLeq_swap]; simp [binOp, Op.stringOp]
@[go_sem] theorem binOp_string_geq_sw (t : TypeId) (a b : ByteArray) : binOp .geq t (.string a) (.string b) = pure (.bool !(Op.bytesLess a.toList b.toList)) := by simp [binOp, Op.stringOp]
end Go.Proofs.Ytnepgcbgkhikkaa.H

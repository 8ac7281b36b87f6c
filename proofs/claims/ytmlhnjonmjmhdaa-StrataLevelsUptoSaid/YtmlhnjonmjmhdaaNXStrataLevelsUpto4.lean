/- RowStrataLevelsUpto of the seat's law StrataLevelsUpto: the law holds, under the statement's own conditions. -/
import Derived.Test.YtmlhnjonmjmhdaaNXStrataLevelsUpto
import Derived.Test.YtmlhnjonmjmhdaaNXStrataLevelsUpto1
import Derived.Test.YtmlhnjonmjmhdaaNXStrataLevelsUpto3
import Derived.Test.YtmlhnjonmjmhdaaNW
import Derived.Deep.DeepMust
import Derived.OpenShut
import Derived.SizedLaws
import Derived.DataReads
import Derived.Test.YtmlhnjonmjmhdaaRows
import Derived.JoinedCond
import Derived.JoinedAt
set_option linter.unusedVariables false
set_option linter.unusedSimpArgs false
set_option linter.unusedSectionVars false
namespace Go.Proofs.Ytmlhnjonmjmhdaa.H
open Go.RowKit Go.Proofs.YtmlhnjonmjmhdaaW.PrintWords Go.Proofs.YtmlhnjonmjmhdaaW.PrintLast Go.Proofs.YtmlhnjonmjmhdaaW.PrintMore
attribute [local go_sem] max2_int min2_int max_two min_two max_three min_three max_four min_four
mutual
def lambrequinref08_Uses.l0 : Nat → List (Decl) → Int → List (Decl) → List (Rule) → Option ((List (Decl)))
 | 0, _, _, _, _ => none
 | k + 1, x3, x4, x102000, x102001 => if x4 < (x102001.length : Int) then (if 0 ≤ x4 then (if x3.length < 5864062014805 then (lambrequinref08_Uses.l1 k (x3 ++ [(⟨(rd_T64 x102001 x4).head.pred, (((rd_T64 x102001 x4).head.args).length : Int)⟩ : Decl)]) x4 0 x102000 x102001 ((rd_T64 x102001 x4).head.pred) ((rd_T64 x102001 x4).head.args) ((rd_T64 x102001 x4).body)) else (none)) else (none)) else (some x3)
def lambrequinref08_Uses.l1 : Nat → List (Decl) → Int → Int → List (Decl) → List (Rule) → ByteArray → List (Term) → List (Liter) → Option ((List (Decl)))
 | 0, _, _, _, _, _, _, _, _ => none
 | k + 1, x3, x4, x6, x102000, x102001, x110000, x110001, x110002 => if x6 < (x110002.length : Int) then (if 0 ≤ x6 then (if ((rd_T71 x110002 x6).kind) = 1 then (if x3.length < 5864062014805 then (lambrequinref08_Uses.l1 k (x3 ++ [(⟨(rd_T71 x110002 x6).atom.pred, (((rd_T71 x110002 x6).atom.args).length : Int)⟩ : Decl)]) x4 (wrap64 (x6 + 1)) x102000 x102001 x110000 x110001 x110002) else (none)) else (if ((rd_T71 x110002 x6).kind) = 2 then (if x3.length < 5864062014805 then (lambrequinref08_Uses.l1 k (x3 ++ [(⟨(rd_T71 x110002 x6).atom.pred, (((rd_T71 x110002 x6).atom.args).length : Int)⟩ : Decl)]) x4 (wrap64 (x6 + 1)) x102000 x102001 x110000 x110001 x110002) else (none)) else (lambrequinref08_Uses.l1 k x3 x4 (wrap64 (x6 + 1)) x102000 x102001 x110000 x110001 x110002))) else (none)) else (lambrequinref08_Uses.l0 k x3 (wrap64 (x4 + 1)) x102000 x102001)
end
def lambrequinref08_Uses.f (k : Nat) (l0_0 : List (Decl)) (l0_1 : List (Rule)) : Option ((List (Decl))) := (some (([] : List (Decl)) : List (Decl))).bind fun y102 => (if y102.length + l0_0.length < 5864062014805 then (lambrequinref08_Uses.l0 k (y102 ++ l0_0) 0 l0_0 l0_1) else (none))
theorem lambrequinref08_Uses.mono_l : ∀ k, (∀ y0 y1 y2 y3, LeO (lambrequinref08_Uses.l0 k y0 y1 y2 y3) (lambrequinref08_Uses.l0 (k + 1) y0 y1 y2 y3)) ∧ (∀ y0 y1 y2 y3 y4 y5 y6 y7, LeO (lambrequinref08_Uses.l1 k y0 y1 y2 y3 y4 y5 y6 y7) (lambrequinref08_Uses.l1 (k + 1) y0 y1 y2 y3 y4 y5 y6 y7))
 | 0 => ⟨fun _ _ _ _ r h => by simp [lambrequinref08_Uses.l0] at h, fun _ _ _ _ _ _ _ _ r h => by simp [lambrequinref08_Uses.l1] at h⟩
 | k + 1 => by
  obtain ⟨ih0, ih1⟩ := lambrequinref08_Uses.mono_l k
  refine ⟨?_, ?_⟩
  ·intro y0 y1 y2 y3
   unfold lambrequinref08_Uses.l0
   repeat' first
   | (with_reducible exact ih0 _ _ _ _)
   | (with_reducible exact ih1 _ _ _ _ _ _ _ _)
   | (with_reducible exact LeO.refl _)
   | (with_reducible exact LeO.none _)
   | (with_reducible refine LeO.ite ?_ ?_)
   | (with_reducible refine LeO.bind ?_ (fun _ => ?_))
   | exact ih0 _ _ _ _
   | exact ih1 _ _ _ _ _ _ _ _
   | exact LeO.none _
   | refine LeO.ite ?_ ?_
   | refine LeO.bind ?_ (fun _ => ?_)
  ·intro y0 y1 y2 y3 y4 y5 y6 y7
   unfold lambrequinref08_Uses.l1
   repeat' first
   | (with_reducible exact ih0 _ _ _ _)
   | (with_reducible exact ih1 _ _ _ _ _ _ _ _)
   | (with_reducible exact LeO.refl _)
   | (with_reducible exact LeO.none _)
   | (with_reducible refine LeO.ite ?_ ?_)
   | (with_reducible refine LeO.bind ?_ (fun _ => ?_))
   | exact ih0 _ _ _ _
   | exact ih1 _ _ _ _ _ _ _ _
   | exact LeO.none _
   | refine LeO.ite ?_ ?_
   | refine LeO.bind ?_ (fun _ => ?_)
theorem lambrequinref08_Uses.mono : ∀ a0 a1 k, LeO (lambrequinref08_Uses.f k a0 a1) (lambrequinref08_Uses.f (k + 1) a0 a1) := by
 intro a0 a1 k
 obtain ⟨ih0, ih1⟩ := lambrequinref08_Uses.mono_l k
 unfold lambrequinref08_Uses.f
 repeat' first
   | (with_reducible exact ih0 _ _ _ _)
   | (with_reducible exact ih1 _ _ _ _ _ _ _ _)
   | (with_reducible exact LeO.refl _)
   | (with_reducible exact LeO.none _)
   | (with_reducible refine LeO.ite ?_ ?_)
   | (with_reducible refine LeO.bind ?_ (fun _ => ?_))
   | exact ih0 _ _ _ _
   | exact ih1 _ _ _ _ _ _ _ _
   | exact LeO.none _
   | refine LeO.ite ?_ ?_
   | refine LeO.bind ?_ (fun _ => ?_)
set_option maxHeartbeats 8000000 in
set_option maxRecDepth 100000 in
theorem lambrequinref08_Uses.calls (k : Nat) (A0_0 : Option Addr) (c0_0 : Nat) (l0_0 : List (Decl)) (A0_1 : Option Addr) (c0_1 : Nat) (l0_1 : List (Rule)) (r : List (Decl)) (w : World) (hr0_0 : Kd.C k96 w A0_0 l0_0.length l0_0) (hc0_0 : l0_0.length ≤ c0_0) (hr0_1 : Kd.C k64 w A0_1 l0_1.length l0_1) (hc0_1 : l0_1.length ≤ c0_1) (h : lambrequinref08_Uses.f k l0_0 l0_1 = some r) :
  Calls Try.prog 51 #[.agg #[.slice A0_0 l0_0.length c0_0, .slice A0_1 l0_1.length c0_1]] w fun e w' => ∃ v0_ : Value, e = .returned (v0_) ∧ Kd.R k96 96 w' w.heap.size (fun _ => True) v0_ r ∧ Below w.heap.size w w' := by
 have hu50 := Try.underlying50
 have hu64 := Try.underlying64
 have hu96 := Try.underlying96
 have hu71 := Try.underlying71
 have HR0_0 := am hr0_0
 have HC0_0 := am hc0_0
 clear hr0_0 hc0_0
 have HR0_1 := am hr0_1
 have HC0_1 := am hc0_1
 clear hr0_1 hc0_1
 have HB := am (Below.refl w.heap.size w)
 have H : ((some (([] : List (Decl)) : List (Decl))).bind fun y102 => (if y102.length + l0_0.length < 5864062014805 then (lambrequinref08_Uses.l0 k (y102 ++ l0_0) 0 l0_0 l0_1) else (none))) = some r := h
 clear h
 obtain ⟨y102, hy102⟩ : ∃ y_ : List (Decl), y_ = (([] : List (Decl))) := ⟨_, rfl⟩
 replace H : (if y102.length + l0_0.length < 5864062014805 then (lambrequinref08_Uses.l0 k (y102 ++ l0_0) 0 l0_0 l0_1) else (none)) = some r := by first | (rw [hy102]; with_reducible exact H) | (have H2_ := (Option.bind_some _ _).symm.trans H; rw [hy102]; with_reducible exact H2_) | (have H2_ := (Option.bind_some _ _).symm.trans H; with_reducible exact H2_) | with_reducible exact H | (rw [hy102]; exact H) | exact H
 have Ny102 := am hy102
 clear hy102
 by_cases c2 : y102.length + l0_0.length < 5864062014805
 ·rw [if_pos c2] at H
  have LMc2 := am c2
  clear c2
  obtain ⟨y105, hy105⟩ : ∃ y_ : List (Decl), y_ = (y102 ++ l0_0) := ⟨_, rfl⟩
  replace H : (lambrequinref08_Uses.l0 k y105 0 l0_0 l0_1) = some r := by first | (rw [hy105]; with_reducible exact H) | (have H2_ := (Option.bind_some _ _).symm.trans H; rw [hy105]; with_reducible exact H2_) | (have H2_ := (Option.bind_some _ _).symm.trans H; with_reducible exact H2_) | with_reducible exact H | (rw [hy105]; exact H) | exact H
  have Ny105 := am hy105
  clear hy105
  have H' := am H
  clear H
  go_enter Try.func51, Try.ntmps51
  go_wp2_with (first | ((with_reducible refine gate_dst (N := 1) rfl ?_); refine box_event ?hg (N := 1) ?hd (cs := #[.slice A0_0 l0_0.length c0_0, .slice A0_1 l0_1.length c0_1]) (t := 50) ?hr ?_; (case hd => rfl); (case hg => rfl); (case hr => first | (go_simp; done) | (go_simp; rfl)); intro gb101 hg w3 hbox hb; have BK101 := am (hbox); have GW101 := am ((by rw [hg]; exact (below_size (by repeat (first | (with_reducible first | exact HB.out | apply lA | apply lN | apply lD) | exact HB.out))) : w.heap.size ≤ gb101)); have GE101 := am ((by rw [hg]; exact (below_size (by repeat (first | (with_reducible first | exact HB.out | apply lA | apply lN | apply lD) | exact HB.out))) : w.heap.size ≤ gb101)); replace HB := am (below_step (by repeat (first | (with_reducible first | exact HB.out | apply lA | apply lN | apply lD) | exact HB.out)) hb); clear hb hbox hg) | ((with_reducible refine gate_dst (N := 8) rfl ?_); refine Kd.R_lit k96 _ 96 ?hg (N := 8) ?hd (xs := ([] : List (Decl))) (inner := []) (ok := fun _ => True) (okp := fun _ => True) ?hr ?hp (fun _ hk => hk) trivial (Below.refl _ _) (Nat.le_refl _) (by simp) ?_; (case hd => rfl); (case hg => rfl); (case hr => first | (go_simp; done) | (go_simp; rfl)); (case hp => exact (Reps.none _ _)); intro v103 w4 ho5 hb hg_ hnew_; clear hg_ hnew_; (first | rw [← Ny102.out] at ho5 | (simp only [Int.reduceToNat] at ho5; rw [← Ny102.out] at ho5)); have HO104 := am (Kd.R_lower ho5 (below_size (by repeat (first | (with_reducible first | exact HB.out | apply lA | apply lN | apply lD | refine lS ?_ GE101.out) | exact HB.out)))); replace BK101 := am (blk_below (g := gb101) (o := .cells #[.slice A0_0 l0_0.length c0_0, .slice A0_1 l0_1.length c0_1] 50 (0, 0)) (by (with_reducible repeat (first | refine bN ?_ _ | refine bD ?_ | refine bA ?_ _)); exact BK101.out) hb); replace HB := am (below_step (by repeat (first | (with_reducible first | exact HB.out | apply lA | apply lN | apply lD | refine lS ?_ GE101.out) | exact HB.out)) hb); clear hb ho5; have hcz6_0 : w4.cell? ⟨gb101, 0, none⟩ = some (.slice A0_0 l0_0.length c0_0) := (blk_cell BK101.out 0).trans rfl; have hcz6_1 : w4.cell? ⟨gb101, 1, none⟩ = some (.slice A0_1 l0_1.length c0_1) := (blk_cell BK101.out 1).trans rfl; have hfz6_0 := blk_frozen BK101.out 0; have hfz6_1 := blk_frozen BK101.out 1) | ((with_reducible refine gate_builtin (b := .append) (xs := #[.tmp 8, .tmp 10]) rfl ?_); at_builtin; refine Kd.R_append_rows k96 (w0 := w) w.heap.size rfl (.tmp 8) (.tmp 10) 47 96 (.agg #[(.string ⟨#[]⟩), (.int .i64 0)]) 24 rfl Try.underlying47 info96 rfl (by decide) (by omega) v103 y102 l0_0 _ _ _ (fun _ => True) (fun _ => False) rfl rfl ?aO ?aR (fun _ _ h => h) (fun _ h => h.elim) ?aF ?aB ?aS ?aL ?_; (case aR => repeat (first | exact (Kd.C_below HR0_0.out HB.out) | (with_reducible refine Kd.C_alloc ?_ _) | (with_reducible refine Kd.C_drewN ?_ _) | (with_reducible refine Kd.C_drew ?_))); (case aB => exact (by repeat (first | (with_reducible first | exact HB.out | apply lA | apply lN | apply lD | refine lS ?_ GE101.out) | exact HB.out))); (case aF => exact (fun _ _ => trivial)); (case aO => exact (by (with_reducible repeat (first | apply Ra | apply Rn | apply Rd)); exact HO104.out)); (case aS => exact (below_size (by repeat (first | (with_reducible first | exact HB.out | apply lA | apply lN | apply lD | refine lS ?_ GE101.out) | exact HB.out)))); (case aL => have := LMc2.out; omega); intro v106 w7 ho hb hg hat; rw [← Ny105.out] at ho; replace BK101 := am (blk_grown (g := gb101) (o := .cells #[.slice A0_0 l0_0.length c0_0, .slice A0_1 l0_1.length c0_1] 50 (0, 0)) (by (with_reducible repeat (first | refine bN ?_ _ | refine bD ?_ | refine bA ?_ _)); exact BK101.out) hg (Kd.R_ne HO104.out BK101.out (by decide))); replace HB := am (hb); have HO107 := am (ho); clear HO104; clear ho hb hg hat))
  go_loopg [3, 4] k (fun kq v3 v4 w' => ∃ (x3_1 : List (Decl)) (x4_1 : Int), v4 = .int .i64 x4_1 ∧ Aside0 (lambrequinref08_Uses.l0 kq x3_1 x4_1 l0_0 l0_1 = some r) ∧ Aside0 (kq ≤ k) ∧ Aside0 (Kd.R k96 96 w' w.heap.size (fun _ => True) v3 x3_1) ∧ Aside0 (w'.heap[gb101]? = some (.cells #[(.slice A0_0 l0_0.length c0_0), (.slice A0_1 l0_1.length c0_1)] 50 (0, 0))) ∧ Aside0 (Below w.heap.size w w'))
  case atStart => exact ⟨(y105), (0), (by first | rfl | (simp; done) | (simp [*]; done)), H', ⟨Nat.le_refl _⟩, ⟨by (with_reducible repeat (first | apply Ra | apply Rn | apply Rd)); exact HO107.out⟩, ⟨by (with_reducible repeat (first | refine bN ?_ _ | refine bD ?_ | refine bA ?_ _)); exact BK101.out⟩, ⟨by repeat (first | (with_reducible first | exact HB.out | apply lA | apply lN | apply lD | refine lS ?_ GE101.out) | exact HB.out)⟩⟩
  case round =>
   clear H'
   try clear c2
   try clear p2
   try clear c5
   try clear hcz6_0
   try clear hcz6_1
   try clear hfz6_0
   try clear hfz6_1
   obtain ⟨x3_1, x4_1, rfl, HA, HK1, HO_3, BK101, HB⟩ := hrel
   cases gk with
   | zero => exact absurd HA.out (by simp [lambrequinref08_Uses.l0])
   | succ k1 =>
    have H := HA.out
    clear HA
    simp only [lambrequinref08_Uses.l0] at H
    by_cases c8 : x4_1 < (l0_1.length : Int)
    ·rw [if_pos c8] at H
     have c8b0 : decide (x4_1 < (l0_1.length : Int)) = true := decide_eq_true c8
     clear c8
     by_cases c9 : 0 ≤ x4_1
     ·rw [if_pos c9] at H
      have c9b0 : decide (0 ≤ x4_1) = true := decide_eq_true c9
      clear c9
      by_cases c10 : x3_1.length < 5864062014805
      ·rw [if_pos c10] at H
       have LMc10 := am c10
       clear c10
       obtain ⟨y110, hy110⟩ : ∃ y_ : List (Decl), y_ = (x3_1 ++ [(⟨(rd_T64 l0_1 x4_1).head.pred, (((rd_T64 l0_1 x4_1).head.args).length : Int)⟩ : Decl)]) := ⟨_, rfl⟩
       replace H : (lambrequinref08_Uses.l1 k1 y110 x4_1 0 l0_0 l0_1 ((rd_T64 l0_1 x4_1).head.pred) ((rd_T64 l0_1 x4_1).head.args) ((rd_T64 l0_1 x4_1).body)) = some r := by first | (rw [hy110]; with_reducible exact H) | (have H2_ := (Option.bind_some _ _).symm.trans H; rw [hy110]; with_reducible exact H2_) | (have H2_ := (Option.bind_some _ _).symm.trans H; with_reducible exact H2_) | with_reducible exact H | (rw [hy110]; exact H) | exact H
       have Ny110 := am hy110
       clear hy110
       have H' := am H
       clear H
       have hcz11_0 : wr.cell? ⟨gb101, 0, none⟩ = some (.slice A0_0 l0_0.length c0_0) := (blk_cell BK101.out 0).trans rfl
       have hcz11_1 : wr.cell? ⟨gb101, 1, none⟩ = some (.slice A0_1 l0_1.length c0_1) := (blk_cell BK101.out 1).trans rfl
       have hfz11_0 := blk_frozen BK101.out 0
       have hfz11_1 := blk_frozen BK101.out 1
       have p108 : 0 ≤ (x4_1 : Int) := of_decide_eq_true (by first | (with_reducible assumption) | assumption)
       have q108 : x4_1 < (l0_1.length : Int) := of_decide_eq_true (by first | (with_reducible assumption) | assumption)
       obtain ⟨ad108, A108_1, c108_1, A108_2, c108_2, e108, hx108_0, hx108_1, hx108_2, hl108_1, hi108_1, hl108_2, hi108_2⟩ := at_T64 HR0_1.out x4_1 p108 q108
       cases e108
       replace hx108_0 := (HB.out.cell (blt_ hx108_0)).trans hx108_0
       replace hx108_1 := (HB.out.cell (blt_ hx108_1)).trans hx108_1
       replace hx108_2 := (HB.out.cell (blt_ hx108_2)).trans hx108_2
       have HR108_1 := am hi108_1
       have HC108_1 := am hl108_1
       clear hi108_1 hl108_1
       have HR108_2 := am hi108_2
       have HC108_2 := am hl108_2
       clear hi108_2 hl108_2
       replace p108 := eq_true p108
       replace q108 := eq_true q108
       go_wp2_with (first | ((with_reducible refine gate_dst (N := 5) rfl ?_); refine box_event ?hg (N := 5) ?hd (cs := #[.string (⟨#[]⟩ : ByteArray), .slice none 0 0, .slice none 0 0]) (t := 64) ?hr ?_; (case hd => rfl); (case hg => rfl); (case hr => first | (go_simp; done) | (go_simp; rfl)); intro gb109 hg w12 hbox hb; replace HO_3 := am (Kd.R_below (by (with_reducible repeat (first | apply Ra | apply Rn | apply Rd)); exact HO_3.out) hb); have BK109 := am (hbox); have GW109 := am ((by rw [hg]; exact (below_size (by repeat (first | (with_reducible first | exact HB.out | apply lA | apply lN | apply lD | refine lS ?_ GE101.out) | exact HB.out))) : w.heap.size ≤ gb109)); have GE109 := am ((by rw [hg]; exact (below_size (by repeat (first | (with_reducible first | exact HB.out | apply lA | apply lN | apply lD | refine lS ?_ GE101.out) | exact HB.out))) : w.heap.size ≤ gb109)); replace HB := am (below_step (by repeat (first | (with_reducible first | exact HB.out | apply lA | apply lN | apply lD | refine lS ?_ GE101.out) | exact HB.out)) hb); have NB101_109 := am ((by rw [hg]; exact Nat.ne_of_lt (blk_lt (g := gb101) (o := .cells #[.slice A0_0 l0_0.length c0_0, .slice (some ad108) l0_1.length c0_1] 50 (0, 0)) (by (with_reducible repeat (first | refine bN ?_ _ | refine bD ?_ | refine bA ?_ _)); exact BK101.out)) : gb101 ≠ gb109)); have NB109_101 := am ((by rw [hg]; exact Nat.ne_of_gt (blk_lt (g := gb101) (o := .cells #[.slice A0_0 l0_0.length c0_0, .slice (some ad108) l0_1.length c0_1] 50 (0, 0)) (by (with_reducible repeat (first | refine bN ?_ _ | refine bD ?_ | refine bA ?_ _)); exact BK101.out)) : gb109 ≠ gb101)); replace BK101 := am (blk_below (g := gb101) (o := .cells #[.slice A0_0 l0_0.length c0_0, .slice (some ad108) l0_1.length c0_1] 50 (0, 0)) (by (with_reducible repeat (first | refine bN ?_ _ | refine bD ?_ | refine bA ?_ _)); exact BK101.out) hb); clear hb hbox hg; have hnb13 := NB109_101.out; have hnc13 := NB101_109.out; have hcz14_0 : w12.cell? ⟨gb109, 0, none⟩ = some (.string (⟨#[]⟩ : ByteArray)) := (blk_cell BK109.out 0).trans rfl; have hcz14_1 : w12.cell? ⟨gb109, 1, none⟩ = some (.slice none 0 0) := (blk_cell BK109.out 1).trans rfl; have hcz14_2 : w12.cell? ⟨gb109, 2, none⟩ = some (.slice none 0 0) := (blk_cell BK109.out 2).trans rfl; have hfz14_0 := blk_frozen BK109.out 0; have hfz14_1 := blk_frozen BK109.out 1; have hfz14_2 := blk_frozen BK109.out 2) | ((with_reducible refine gate_builtin (b := .append) (xs := #[.tmp 24, .tmp 33]) rfl ?_); at_builtin; refine Kd.R_append k96 (w0 := w) w.heap.size rfl (.tmp 24) (.tmp 33) 47 96 (.agg #[(.string ⟨#[]⟩), (.int .i64 0)]) 24 rfl Try.underlying47 info96 rfl (by decide) (by omega) u3 x3_1 (⟨(rd_T64 l0_1 x4_1).head.pred, (((rd_T64 l0_1 x4_1).head.args).length : Int)⟩ : Decl) [.string ((rd_T64 l0_1 x4_1).head.pred), .int .i64 (((rd_T64 l0_1 x4_1).head.args).length : Int)] (fun _ => True) (fun _ => False) rfl (by first | (go_simp; done) | (go_simp; rfl)) ?aP (fun _ hk => hk.elim) ?aF ?aO ?aB ?aS ?aL ?_; (case aP => exact k96_mkM _ _ _ (⟨(rd_T64 l0_1 x4_1).head.pred, (((rd_T64 l0_1 x4_1).head.args).length : Int)⟩ : Decl)); (case aB => exact (by repeat (first | (with_reducible first | exact HB.out | apply lA | apply lN | apply lD | refine lS ?_ GE101.out | refine lS ?_ GE109.out) | exact HB.out))); (case aF => exact (fun _ _ => trivial)); (case aO => exact (by (with_reducible repeat (first | apply Ra | apply Rn | apply Rd)); exact Kd.R_mono (Kd.R_far (p := ⟨gb109, 2, none⟩) (Kd.R_far (p := ⟨gb109, 1, none⟩) (Kd.R_far (p := ⟨gb109, 0, none⟩) (Kd.R_types HO_3.out BK109.out (by decide)) (fun _ hk => hk.2) _) (fun _ hk => hk.2) _) (fun _ hk => hk.2) _) (fun _ hk => trivial))); (case aS => exact (below_size (by repeat (first | (with_reducible first | exact HB.out | apply lA | apply lN | apply lD | refine lS ?_ GE101.out | refine lS ?_ GE109.out) | exact HB.out)))); (case aL => have := LMc10.out; omega); intro v111 w15 ho hb hg hat; rw [← Ny110.out] at ho; replace BK101 := am (blk_grown (g := gb101) (o := .cells #[.slice A0_0 l0_0.length c0_0, .slice (some ad108) l0_1.length c0_1] 50 (0, 0)) (by repeat (first | (with_reducible first | exact BK101.out | refine bN ?_ _ | refine bD ?_ | refine bA ?_ _) | refine blk_far ?_ NB101_109.out _ | exact BK101.out)) hg (Kd.R_ne HO_3.out BK101.out (by decide))); replace BK109 := am (blk_grown (g := gb109) (o := .cells #[.string ((rd_T64 l0_1 x4_1).head.pred), .slice A108_1 ((rd_T64 l0_1 x4_1).head.args).length c108_1, .slice A108_2 ((rd_T64 l0_1 x4_1).body).length c108_2] 64 (0, 0)) (by (with_reducible repeat (first | refine bN ?_ _ | refine bD ?_ | refine bA ?_ _)); refine blk_put (cs := #[.string ((rd_T64 l0_1 x4_1).head.pred), .slice A108_1 ((rd_T64 l0_1 x4_1).head.args).length c108_1, .slice none 0 0]) ?_ 2 _ rfl; (with_reducible repeat (first | refine bN ?_ _ | refine bD ?_ | refine bA ?_ _)); refine blk_put (cs := #[.string ((rd_T64 l0_1 x4_1).head.pred), .slice none 0 0, .slice none 0 0]) ?_ 1 _ rfl; (with_reducible repeat (first | refine bN ?_ _ | refine bD ?_ | refine bA ?_ _)); refine blk_put (cs := #[.string (⟨#[]⟩ : ByteArray), .slice none 0 0, .slice none 0 0]) ?_ 0 _ rfl; (with_reducible repeat (first | refine bN ?_ _ | refine bD ?_ | refine bA ?_ _)); exact BK109.out) hg (Kd.R_ne HO_3.out BK109.out (by decide))); replace HB := am (hb); have HO112 := am (ho); clear HO_3; clear ho hb hg hat))
       go_loopg [3, 6] k1 (fun kq v3 v6 w' => ∃ (x3_2 : List (Decl)) (x6_2 : Int), v6 = .int .i64 x6_2 ∧ Aside0 (lambrequinref08_Uses.l1 kq x3_2 x4_1 x6_2 l0_0 l0_1 ((rd_T64 l0_1 x4_1).head.pred) ((rd_T64 l0_1 x4_1).head.args) ((rd_T64 l0_1 x4_1).body) = some r) ∧ Aside0 (kq ≤ k1) ∧ Aside0 (Kd.R k96 96 w' w.heap.size (fun _ => True) v3 x3_2) ∧ Aside0 (w'.heap[gb101]? = some (.cells #[(.slice A0_0 l0_0.length c0_0), (.slice (some ad108) l0_1.length c0_1)] 50 (0, 0))) ∧ Aside0 (w'.heap[gb109]? = some (.cells #[.string ((rd_T64 l0_1 x4_1).head.pred), (.slice A108_1 ((rd_T64 l0_1 x4_1).head.args).length c108_1), (.slice A108_2 ((rd_T64 l0_1 x4_1).body).length c108_2)] 64 (0, 0))) ∧ Aside0 (Below w.heap.size w w'))
       case atStart => exact ⟨(y110), (0), (by first | rfl | (simp; done) | (simp [*]; done)), H', ⟨Nat.le_refl _⟩, ⟨by (with_reducible repeat (first | apply Ra | apply Rn | apply Rd)); exact HO112.out⟩, ⟨by (with_reducible repeat (first | refine bN ?_ _ | refine bD ?_ | refine bA ?_ _)); exact BK101.out⟩, ⟨by (with_reducible repeat (first | refine bN ?_ _ | refine bD ?_ | refine bA ?_ _)); exact BK109.out⟩, ⟨by repeat (first | (with_reducible first | exact HB.out | apply lA | apply lN | apply lD | refine lS ?_ GE101.out | refine lS ?_ GE109.out) | exact HB.out)⟩⟩
       case round =>
        clear H'
        try clear c1
        try clear p1
        try clear q1
        try clear hx1
        try clear c2
        try clear p2
        try clear c5
        try clear c8
        try clear c8b0
        try clear c9
        try clear c9b0
        try clear c10
        try clear p10
        try clear q10
        try clear hx10
        try clear c13
        try clear hcz11_0
        try clear hcz11_1
        try clear hcz14_0
        try clear hcz14_1
        try clear hcz14_2
        try clear hcz6_0
        try clear hcz6_1
        try clear hfz11_0
        try clear hfz11_1
        try clear hfz14_0
        try clear hfz14_1
        try clear hfz14_2
        try clear hfz6_0
        try clear hfz6_1
        try clear hx108_0
        try clear hx108_1
        try clear hx108_2
        try clear p108
        try clear p2
        try clear q108
        obtain ⟨x3_2, x6_2, rfl, HA, HK2, HO_3, BK101, BK109, HB⟩ := hrel
        cases gk with
        | zero => exact absurd HA.out (by simp [lambrequinref08_Uses.l1])
        | succ k2 =>
         have H := HA.out
         clear HA
         simp only [lambrequinref08_Uses.l1] at H
         by_cases c16 : x6_2 < (((rd_T64 l0_1 x4_1).body).length : Int)
         ·rw [if_pos c16] at H
          have c16b0 : decide (x6_2 < (((rd_T64 l0_1 x4_1).body).length : Int)) = true := decide_eq_true c16
          clear c16
          by_cases c17 : 0 ≤ x6_2
          ·rw [if_pos c17] at H
           have c17b0 : decide (0 ≤ x6_2) = true := decide_eq_true c17
           clear c17
           by_cases c18 : ((rd_T71 ((rd_T64 l0_1 x4_1).body) x6_2).kind) = 1
           ·rw [if_pos c18] at H
            have c18b0 : (((rd_T71 ((rd_T64 l0_1 x4_1).body) x6_2).kind) == 1) = true := beq_iff_eq.mpr c18
            have c18b1 : (((rd_T71 ((rd_T64 l0_1 x4_1).body) x6_2).kind) != 1) = false := bne_eq_false_iff_eq.mpr c18
            clear c18
            by_cases c19 : x3_2.length < 5864062014805
            ·rw [if_pos c19] at H
             have LMc19 := am c19
             clear c19
             obtain ⟨y115, hy115⟩ : ∃ y_ : List (Decl), y_ = (x3_2 ++ [(⟨(rd_T71 ((rd_T64 l0_1 x4_1).body) x6_2).atom.pred, (((rd_T71 ((rd_T64 l0_1 x4_1).body) x6_2).atom.args).length : Int)⟩ : Decl)]) := ⟨_, rfl⟩
             replace H : (lambrequinref08_Uses.l1 k2 y115 x4_1 (wrap64 (x6_2 + 1)) l0_0 l0_1 ((rd_T64 l0_1 x4_1).head.pred) ((rd_T64 l0_1 x4_1).head.args) ((rd_T64 l0_1 x4_1).body)) = some r := by first | (rw [hy115]; with_reducible exact H) | (have H2_ := (Option.bind_some _ _).symm.trans H; rw [hy115]; with_reducible exact H2_) | (have H2_ := (Option.bind_some _ _).symm.trans H; with_reducible exact H2_) | with_reducible exact H | (rw [hy115]; exact H) | exact H
             have Ny115 := am hy115
             clear hy115
             have H' := am H
             clear H
             have hnb20 := NB109_101.out
             have hnc20 := NB101_109.out
             have hcz21_0 : wr.cell? ⟨gb109, 0, none⟩ = some (.string ((rd_T64 l0_1 x4_1).head.pred)) := (blk_cell BK109.out 0).trans rfl
             have hcz21_1 : wr.cell? ⟨gb109, 1, none⟩ = some (.slice A108_1 ((rd_T64 l0_1 x4_1).head.args).length c108_1) := (blk_cell BK109.out 1).trans rfl
             have hcz21_2 : wr.cell? ⟨gb109, 2, none⟩ = some (.slice A108_2 ((rd_T64 l0_1 x4_1).body).length c108_2) := (blk_cell BK109.out 2).trans rfl
             have hfz21_0 := blk_frozen BK109.out 0
             have hfz21_1 := blk_frozen BK109.out 1
             have hfz21_2 := blk_frozen BK109.out 2
             have p113 : 0 ≤ (x6_2 : Int) := of_decide_eq_true (by first | (with_reducible assumption) | assumption)
             have q113 : x6_2 < (((rd_T64 l0_1 x4_1).body).length : Int) := of_decide_eq_true (by first | (with_reducible assumption) | assumption)
             obtain ⟨ad113, A113_2, c113_2, e113, hx113_0, hx113_1, hx113_2, hx113_3, hx113_4, hx113_5, hx113_6, hx113_7, hx113_8, hx113_9, hx113_10, hx113_11, hx113_12, hx113_13, hl113_2, hi113_2⟩ := at_T71 HR108_2.out x6_2 p113 q113
             cases e113
             replace hx113_0 := (HB.out.cell (blt_ hx113_0)).trans hx113_0
             replace hx113_1 := (HB.out.cell (blt_ hx113_1)).trans hx113_1
             replace hx113_2 := (HB.out.cell (blt_ hx113_2)).trans hx113_2
             replace hx113_3 := (HB.out.cell (blt_ hx113_3)).trans hx113_3
             replace hx113_4 := (HB.out.cell (blt_ hx113_4)).trans hx113_4
             replace hx113_5 := (HB.out.cell (blt_ hx113_5)).trans hx113_5
             replace hx113_6 := (HB.out.cell (blt_ hx113_6)).trans hx113_6
             replace hx113_7 := (HB.out.cell (blt_ hx113_7)).trans hx113_7
             replace hx113_8 := (HB.out.cell (blt_ hx113_8)).trans hx113_8
             replace hx113_9 := (HB.out.cell (blt_ hx113_9)).trans hx113_9
             replace hx113_10 := (HB.out.cell (blt_ hx113_10)).trans hx113_10
             replace hx113_11 := (HB.out.cell (blt_ hx113_11)).trans hx113_11
             replace hx113_12 := (HB.out.cell (blt_ hx113_12)).trans hx113_12
             replace hx113_13 := (HB.out.cell (blt_ hx113_13)).trans hx113_13
             have HR113_2 := am hi113_2
             have HC113_2 := am hl113_2
             clear hi113_2 hl113_2
             replace p113 := eq_true p113
             replace q113 := eq_true q113
             go_wp2_with (first | ((with_reducible refine gate_dst (N := 7) rfl ?_); refine box_event ?hg (N := 7) ?hd (cs := #[.int .i64 0, .string (⟨#[]⟩ : ByteArray), .slice none 0 0, .string (⟨#[]⟩ : ByteArray), .bool false, .string (⟨#[]⟩ : ByteArray), .bool false, .string (⟨#[]⟩ : ByteArray), .int .i64 0, .bool false, .string (⟨#[]⟩ : ByteArray), .bool false, .string (⟨#[]⟩ : ByteArray), .int .i64 0]) (t := 71) ?hr ?_; (case hd => rfl); (case hg => rfl); (case hr => first | (go_simp; done) | (go_simp; rfl)); intro gb114 hg w22 hbox hb; replace HO_3 := am (Kd.R_below (by (with_reducible repeat (first | apply Ra | apply Rn | apply Rd)); exact HO_3.out) hb); have BK114 := am (hbox); have GW114 := am ((by rw [hg]; exact (below_size (by repeat (first | (with_reducible first | exact HB.out | apply lA | apply lN | apply lD | refine lS ?_ GE101.out | refine lS ?_ GE109.out) | exact HB.out))) : w.heap.size ≤ gb114)); have GE114 := am ((by rw [hg]; exact (below_size (by repeat (first | (with_reducible first | exact HB.out | apply lA | apply lN | apply lD | refine lS ?_ GE101.out | refine lS ?_ GE109.out) | exact HB.out))) : w.heap.size ≤ gb114)); replace HB := am (below_step (by repeat (first | (with_reducible first | exact HB.out | apply lA | apply lN | apply lD | refine lS ?_ GE101.out | refine lS ?_ GE109.out) | exact HB.out)) hb); have NB101_114 := am ((by rw [hg]; exact Nat.ne_of_lt (blk_lt (g := gb101) (o := .cells #[.slice A0_0 l0_0.length c0_0, .slice (some ad108) l0_1.length c0_1] 50 (0, 0)) (by (with_reducible repeat (first | refine bN ?_ _ | refine bD ?_ | refine bA ?_ _)); exact BK101.out)) : gb101 ≠ gb114)); have NB114_101 := am ((by rw [hg]; exact Nat.ne_of_gt (blk_lt (g := gb101) (o := .cells #[.slice A0_0 l0_0.length c0_0, .slice (some ad108) l0_1.length c0_1] 50 (0, 0)) (by (with_reducible repeat (first | refine bN ?_ _ | refine bD ?_ | refine bA ?_ _)); exact BK101.out)) : gb114 ≠ gb101)); replace BK101 := am (blk_below (g := gb101) (o := .cells #[.slice A0_0 l0_0.length c0_0, .slice (some ad108) l0_1.length c0_1] 50 (0, 0)) (by (with_reducible repeat (first | refine bN ?_ _ | refine bD ?_ | refine bA ?_ _)); exact BK101.out) hb); have NB109_114 := am ((by rw [hg]; exact Nat.ne_of_lt (blk_lt (g := gb109) (o := .cells #[.string ((rd_T64 l0_1 x4_1).head.pred), .slice A108_1 ((rd_T64 l0_1 x4_1).head.args).length c108_1, .slice (some ad113) ((rd_T64 l0_1 x4_1).body).length c108_2] 64 (0, 0)) (by (with_reducible repeat (first | refine bN ?_ _ | refine bD ?_ | refine bA ?_ _)); exact BK109.out)) : gb109 ≠ gb114)); have NB114_109 := am ((by rw [hg]; exact Nat.ne_of_gt (blk_lt (g := gb109) (o := .cells #[.string ((rd_T64 l0_1 x4_1).head.pred), .slice A108_1 ((rd_T64 l0_1 x4_1).head.args).length c108_1, .slice (some ad113) ((rd_T64 l0_1 x4_1).body).length c108_2] 64 (0, 0)) (by (with_reducible repeat (first | refine bN ?_ _ | refine bD ?_ | refine bA ?_ _)); exact BK109.out)) : gb114 ≠ gb109)); replace BK109 := am (blk_below (g := gb109) (o := .cells #[.string ((rd_T64 l0_1 x4_1).head.pred), .slice A108_1 ((rd_T64 l0_1 x4_1).head.args).length c108_1, .slice (some ad113) ((rd_T64 l0_1 x4_1).body).length c108_2] 64 (0, 0)) (by (with_reducible repeat (first | refine bN ?_ _ | refine bD ?_ | refine bA ?_ _)); exact BK109.out) hb); clear hb hbox hg; have hnb23 := NB114_101.out; have hnc23 := NB101_114.out; have hnb24 := NB114_109.out; have hnc24 := NB109_114.out; have hcz25_0 : w22.cell? ⟨gb114, 0, none⟩ = some (.int .i64 0) := (blk_cell BK114.out 0).trans rfl; have hcz25_1 : w22.cell? ⟨gb114, 1, none⟩ = some (.string (⟨#[]⟩ : ByteArray)) := (blk_cell BK114.out 1).trans rfl; have hcz25_2 : w22.cell? ⟨gb114, 2, none⟩ = some (.slice none 0 0) := (blk_cell BK114.out 2).trans rfl; have hcz25_3 : w22.cell? ⟨gb114, 3, none⟩ = some (.string (⟨#[]⟩ : ByteArray)) := (blk_cell BK114.out 3).trans rfl; have hcz25_4 : w22.cell? ⟨gb114, 4, none⟩ = some (.bool false) := (blk_cell BK114.out 4).trans rfl; have hcz25_5 : w22.cell? ⟨gb114, 5, none⟩ = some (.string (⟨#[]⟩ : ByteArray)) := (blk_cell BK114.out 5).trans rfl; have hcz25_6 : w22.cell? ⟨gb114, 6, none⟩ = some (.bool false) := (blk_cell BK114.out 6).trans rfl; have hcz25_7 : w22.cell? ⟨gb114, 7, none⟩ = some (.string (⟨#[]⟩ : ByteArray)) := (blk_cell BK114.out 7).trans rfl; have hcz25_8 : w22.cell? ⟨gb114, 8, none⟩ = some (.int .i64 0) := (blk_cell BK114.out 8).trans rfl; have hcz25_9 : w22.cell? ⟨gb114, 9, none⟩ = some (.bool false) := (blk_cell BK114.out 9).trans rfl; have hcz25_10 : w22.cell? ⟨gb114, 10, none⟩ = some (.string (⟨#[]⟩ : ByteArray)) := (blk_cell BK114.out 10).trans rfl; have hcz25_11 : w22.cell? ⟨gb114, 11, none⟩ = some (.bool false) := (blk_cell BK114.out 11).trans rfl; have hcz25_12 : w22.cell? ⟨gb114, 12, none⟩ = some (.string (⟨#[]⟩ : ByteArray)) := (blk_cell BK114.out 12).trans rfl; have hcz25_13 : w22.cell? ⟨gb114, 13, none⟩ = some (.int .i64 0) := (blk_cell BK114.out 13).trans rfl; have hfz25_0 := blk_frozen BK114.out 0; have hfz25_1 := blk_frozen BK114.out 1; have hfz25_2 := blk_frozen BK114.out 2; have hfz25_3 := blk_frozen BK114.out 3; have hfz25_4 := blk_frozen BK114.out 4; have hfz25_5 := blk_frozen BK114.out 5; have hfz25_6 := blk_frozen BK114.out 6; have hfz25_7 := blk_frozen BK114.out 7; have hfz25_8 := blk_frozen BK114.out 8; have hfz25_9 := blk_frozen BK114.out 9; have hfz25_10 := blk_frozen BK114.out 10; have hfz25_11 := blk_frozen BK114.out 11; have hfz25_12 := blk_frozen BK114.out 12; have hfz25_13 := blk_frozen BK114.out 13) | ((with_reducible refine gate_builtin (b := .append) (xs := #[.tmp 55, .tmp 64]) rfl ?_); at_builtin; refine Kd.R_append k96 (w0 := w) w.heap.size rfl (.tmp 55) (.tmp 64) 47 96 (.agg #[(.string ⟨#[]⟩), (.int .i64 0)]) 24 rfl Try.underlying47 info96 rfl (by decide) (by omega) u3 x3_2 (⟨(rd_T71 ((rd_T64 l0_1 x4_1).body) x6_2).atom.pred, (((rd_T71 ((rd_T64 l0_1 x4_1).body) x6_2).atom.args).length : Int)⟩ : Decl) [.string ((rd_T71 ((rd_T64 l0_1 x4_1).body) x6_2).atom.pred), .int .i64 (((rd_T71 ((rd_T64 l0_1 x4_1).body) x6_2).atom.args).length : Int)] (fun _ => True) (fun _ => False) rfl (by first | (go_simp; done) | (go_simp; rfl)) ?aP (fun _ hk => hk.elim) ?aF ?aO ?aB ?aS ?aL ?_; (case aP => exact k96_mkM _ _ _ (⟨(rd_T71 ((rd_T64 l0_1 x4_1).body) x6_2).atom.pred, (((rd_T71 ((rd_T64 l0_1 x4_1).body) x6_2).atom.args).length : Int)⟩ : Decl)); (case aB => exact (by repeat (first | (with_reducible first | exact HB.out | apply lA | apply lN | apply lD | refine lS ?_ GE101.out | refine lS ?_ GE109.out | refine lS ?_ GE114.out) | exact HB.out))); (case aF => exact (fun _ _ => trivial)); (case aO => exact (by (with_reducible repeat (first | apply Ra | apply Rn | apply Rd)); exact Kd.R_mono (Kd.R_far (p := ⟨gb114, 13, none⟩) (Kd.R_far (p := ⟨gb114, 12, none⟩) (Kd.R_far (p := ⟨gb114, 11, none⟩) (Kd.R_far (p := ⟨gb114, 10, none⟩) (Kd.R_far (p := ⟨gb114, 9, none⟩) (Kd.R_far (p := ⟨gb114, 8, none⟩) (Kd.R_far (p := ⟨gb114, 7, none⟩) (Kd.R_far (p := ⟨gb114, 6, none⟩) (Kd.R_far (p := ⟨gb114, 5, none⟩) (Kd.R_far (p := ⟨gb114, 4, none⟩) (Kd.R_far (p := ⟨gb114, 3, none⟩) (Kd.R_far (p := ⟨gb114, 2, none⟩) (Kd.R_far (p := ⟨gb114, 1, none⟩) (Kd.R_far (p := ⟨gb114, 0, none⟩) (Kd.R_types HO_3.out BK114.out (by decide)) (fun _ hk => hk.2) _) (fun _ hk => hk.2) _) (fun _ hk => hk.2) _) (fun _ hk => hk.2) _) (fun _ hk => hk.2) _) (fun _ hk => hk.2) _) (fun _ hk => hk.2) _) (fun _ hk => hk.2) _) (fun _ hk => hk.2) _) (fun _ hk => hk.2) _) (fun _ hk => hk.2) _) (fun _ hk => hk.2) _) (fun _ hk => hk.2) _) (fun _ hk => hk.2) _) (fun _ hk => trivial))); (case aS => exact (below_size (by repeat (first | (with_reducible first | exact HB.out | apply lA | apply lN | apply lD | refine lS ?_ GE101.out | refine lS ?_ GE109.out | refine lS ?_ GE114.out) | exact HB.out)))); (case aL => have := LMc19.out; omega); intro v116 w26 ho hb hg hat; rw [← Ny115.out] at ho; replace BK101 := am (blk_grown (g := gb101) (o := .cells #[.slice A0_0 l0_0.length c0_0, .slice (some ad108) l0_1.length c0_1] 50 (0, 0)) (by repeat (first | (with_reducible first | exact BK101.out | refine bN ?_ _ | refine bD ?_ | refine bA ?_ _) | refine blk_far ?_ NB101_114.out _ | exact BK101.out)) hg (Kd.R_ne HO_3.out BK101.out (by decide))); replace BK109 := am (blk_grown (g := gb109) (o := .cells #[.string ((rd_T64 l0_1 x4_1).head.pred), .slice A108_1 ((rd_T64 l0_1 x4_1).head.args).length c108_1, .slice (some ad113) ((rd_T64 l0_1 x4_1).body).length c108_2] 64 (0, 0)) (by repeat (first | (with_reducible first | exact BK109.out | refine bN ?_ _ | refine bD ?_ | refine bA ?_ _) | refine blk_far ?_ NB109_114.out _ | exact BK109.out)) hg (Kd.R_ne HO_3.out BK109.out (by decide))); replace BK114 := am (blk_grown (g := gb114) (o := .cells #[.int .i64 ((rd_T71 ((rd_T64 l0_1 x4_1).body) x6_2).kind), .string ((rd_T71 ((rd_T64 l0_1 x4_1).body) x6_2).atom.pred), .slice A113_2 ((rd_T71 ((rd_T64 l0_1 x4_1).body) x6_2).atom.args).length c113_2, .string ((rd_T71 ((rd_T64 l0_1 x4_1).body) x6_2).op), .bool ((rd_T71 ((rd_T64 l0_1 x4_1).body) x6_2).l.isVar), .string ((rd_T71 ((rd_T64 l0_1 x4_1).body) x6_2).l.name), .bool ((rd_T71 ((rd_T64 l0_1 x4_1).body) x6_2).l.val.isSym), .string ((rd_T71 ((rd_T64 l0_1 x4_1).body) x6_2).l.val.sym), .int .i64 ((rd_T71 ((rd_T64 l0_1 x4_1).body) x6_2).l.val.n), .bool ((rd_T71 ((rd_T64 l0_1 x4_1).body) x6_2).r.isVar), .string ((rd_T71 ((rd_T64 l0_1 x4_1).body) x6_2).r.name), .bool ((rd_T71 ((rd_T64 l0_1 x4_1).body) x6_2).r.val.isSym), .string ((rd_T71 ((rd_T64 l0_1 x4_1).body) x6_2).r.val.sym), .int .i64 ((rd_T71 ((rd_T64 l0_1 x4_1).body) x6_2).r.val.n)] 71 (0, 0)) (by (with_reducible repeat (first | refine bN ?_ _ | refine bD ?_ | refine bA ?_ _)); refine blk_put (cs := #[.int .i64 ((rd_T71 ((rd_T64 l0_1 x4_1).body) x6_2).kind), .string ((rd_T71 ((rd_T64 l0_1 x4_1).body) x6_2).atom.pred), .slice A113_2 ((rd_T71 ((rd_T64 l0_1 x4_1).body) x6_2).atom.args).length c113_2, .string ((rd_T71 ((rd_T64 l0_1 x4_1).body) x6_2).op), .bool ((rd_T71 ((rd_T64 l0_1 x4_1).body) x6_2).l.isVar), .string ((rd_T71 ((rd_T64 l0_1 x4_1).body) x6_2).l.name), .bool ((rd_T71 ((rd_T64 l0_1 x4_1).body) x6_2).l.val.isSym), .string ((rd_T71 ((rd_T64 l0_1 x4_1).body) x6_2).l.val.sym), .int .i64 ((rd_T71 ((rd_T64 l0_1 x4_1).body) x6_2).l.val.n), .bool ((rd_T71 ((rd_T64 l0_1 x4_1).body) x6_2).r.isVar), .string ((rd_T71 ((rd_T64 l0_1 x4_1).body) x6_2).r.name), .bool ((rd_T71 ((rd_T64 l0_1 x4_1).body) x6_2).r.val.isSym), .string ((rd_T71 ((rd_T64 l0_1 x4_1).body) x6_2).r.val.sym), .int .i64 0]) ?_ 13 _ rfl; (with_reducible repeat (first | refine bN ?_ _ | refine bD ?_ | refine bA ?_ _)); refine blk_put (cs := #[.int .i64 ((rd_T71 ((rd_T64 l0_1 x4_1).body) x6_2).kind), .string ((rd_T71 ((rd_T64 l0_1 x4_1).body) x6_2).atom.pred), .slice A113_2 ((rd_T71 ((rd_T64 l0_1 x4_1).body) x6_2).atom.args).length c113_2, .string ((rd_T71 ((rd_T64 l0_1 x4_1).body) x6_2).op), .bool ((rd_T71 ((rd_T64 l0_1 x4_1).body) x6_2).l.isVar), .string ((rd_T71 ((rd_T64 l0_1 x4_1).body) x6_2).l.name), .bool ((rd_T71 ((rd_T64 l0_1 x4_1).body) x6_2).l.val.isSym), .string ((rd_T71 ((rd_T64 l0_1 x4_1).body) x6_2).l.val.sym), .int .i64 ((rd_T71 ((rd_T64 l0_1 x4_1).body) x6_2).l.val.n), .bool ((rd_T71 ((rd_T64 l0_1 x4_1).body) x6_2).r.isVar), .string ((rd_T71 ((rd_T64 l0_1 x4_1).body) x6_2).r.name), .bool ((rd_T71 ((rd_T64 l0_1 x4_1).body) x6_2).r.val.isSym), .string (⟨#[]⟩ : ByteArray), .int .i64 0]) ?_ 12 _ rfl; (with_reducible repeat (first | refine bN ?_ _ | refine bD ?_ | refine bA ?_ _)); refine blk_put (cs := #[.int .i64 ((rd_T71 ((rd_T64 l0_1 x4_1).body) x6_2).kind), .string ((rd_T71 ((rd_T64 l0_1 x4_1).body) x6_2).atom.pred), .slice A113_2 ((rd_T71 ((rd_T64 l0_1 x4_1).body) x6_2).atom.args).length c113_2, .string ((rd_T71 ((rd_T64 l0_1 x4_1).body) x6_2).op), .bool ((rd_T71 ((rd_T64 l0_1 x4_1).body) x6_2).l.isVar), .string ((rd_T71 ((rd_T64 l0_1 x4_1).body) x6_2).l.name), .bool ((rd_T71 ((rd_T64 l0_1 x4_1).body) x6_2).l.val.isSym), .string ((rd_T71 ((rd_T64 l0_1 x4_1).body) x6_2).l.val.sym), .int .i64 ((rd_T71 ((rd_T64 l0_1 x4_1).body) x6_2).l.val.n), .bool ((rd_T71 ((rd_T64 l0_1 x4_1).body) x6_2).r.isVar), .string ((rd_T71 ((rd_T64 l0_1 x4_1).body) x6_2).r.name), .bool false, .string (⟨#[]⟩ : ByteArray), .int .i64 0]) ?_ 11 _ rfl; (with_reducible repeat (first | refine bN ?_ _ | refine bD ?_ | refine bA ?_ _)); refine blk_put (cs := #[.int .i64 ((rd_T71 ((rd_T64 l0_1 x4_1).body) x6_2).kind), .string ((rd_T71 ((rd_T64 l0_1 x4_1).body) x6_2).atom.pred), .slice A113_2 ((rd_T71 ((rd_T64 l0_1 x4_1).body) x6_2).atom.args).length c113_2, .string ((rd_T71 ((rd_T64 l0_1 x4_1).body) x6_2).op), .bool ((rd_T71 ((rd_T64 l0_1 x4_1).body) x6_2).l.isVar), .string ((rd_T71 ((rd_T64 l0_1 x4_1).body) x6_2).l.name), .bool ((rd_T71 ((rd_T64 l0_1 x4_1).body) x6_2).l.val.isSym), .string ((rd_T71 ((rd_T64 l0_1 x4_1).body) x6_2).l.val.sym), .int .i64 ((rd_T71 ((rd_T64 l0_1 x4_1).body) x6_2).l.val.n), .bool ((rd_T71 ((rd_T64 l0_1 x4_1).body) x6_2).r.isVar), .string (⟨#[]⟩ : ByteArray), .bool false, .string (⟨#[]⟩ : ByteArray), .int .i64 0]) ?_ 10 _ rfl; (with_reducible repeat (first | refine bN ?_ _ | refine bD ?_ | refine bA ?_ _)); refine blk_put (cs := #[.int .i64 ((rd_T71 ((rd_T64 l0_1 x4_1).body) x6_2).kind), .string ((rd_T71 ((rd_T64 l0_1 x4_1).body) x6_2).atom.pred), .slice A113_2 ((rd_T71 ((rd_T64 l0_1 x4_1).body) x6_2).atom.args).length c113_2, .string ((rd_T71 ((rd_T64 l0_1 x4_1).body) x6_2).op), .bool ((rd_T71 ((rd_T64 l0_1 x4_1).body) x6_2).l.isVar), .string ((rd_T71 ((rd_T64 l0_1 x4_1).body) x6_2).l.name), .bool ((rd_T71 ((rd_T64 l0_1 x4_1).body) x6_2).l.val.isSym), .string ((rd_T71 ((rd_T64 l0_1 x4_1).body) x6_2).l.val.sym), .int .i64 ((rd_T71 ((rd_T64 l0_1 x4_1).body) x6_2).l.val.n), .bool false, .string (⟨#[]⟩ : ByteArray), .bool false, .string (⟨#[]⟩ : ByteArray), .int .i64 0]) ?_ 9 _ rfl; (with_reducible repeat (first | refine bN ?_ _ | refine bD ?_ | refine bA ?_ _)); refine blk_put (cs := #[.int .i64 ((rd_T71 ((rd_T64 l0_1 x4_1).body) x6_2).kind), .string ((rd_T71 ((rd_T64 l0_1 x4_1).body) x6_2).atom.pred), .slice A113_2 ((rd_T71 ((rd_T64 l0_1 x4_1).body) x6_2).atom.args).length c113_2, .string ((rd_T71 ((rd_T64 l0_1 x4_1).body) x6_2).op), .bool ((rd_T71 ((rd_T64 l0_1 x4_1).body) x6_2).l.isVar), .string ((rd_T71 ((rd_T64 l0_1 x4_1).body) x6_2).l.name), .bool ((rd_T71 ((rd_T64 l0_1 x4_1).body) x6_2).l.val.isSym), .string ((rd_T71 ((rd_T64 l0_1 x4_1).body) x6_2).l.val.sym), .int .i64 0, .bool false, .string (⟨#[]⟩ : ByteArray), .bool false, .string (⟨#[]⟩ : ByteArray), .int .i64 0]) ?_ 8 _ rfl; (with_reducible repeat (first | refine bN ?_ _ | refine bD ?_ | refine bA ?_ _)); refine blk_put (cs := #[.int .i64 ((rd_T71 ((rd_T64 l0_1 x4_1).body) x6_2).kind), .string ((rd_T71 ((rd_T64 l0_1 x4_1).body) x6_2).atom.pred), .slice A113_2 ((rd_T71 ((rd_T64 l0_1 x4_1).body) x6_2).atom.args).length c113_2, .string ((rd_T71 ((rd_T64 l0_1 x4_1).body) x6_2).op), .bool ((rd_T71 ((rd_T64 l0_1 x4_1).body) x6_2).l.isVar), .string ((rd_T71 ((rd_T64 l0_1 x4_1).body) x6_2).l.name), .bool ((rd_T71 ((rd_T64 l0_1 x4_1).body) x6_2).l.val.isSym), .string (⟨#[]⟩ : ByteArray), .int .i64 0, .bool false, .string (⟨#[]⟩ : ByteArray), .bool false, .string (⟨#[]⟩ : ByteArray), .int .i64 0]) ?_ 7 _ rfl; (with_reducible repeat (first | refine bN ?_ _ | refine bD ?_ | refine bA ?_ _)); refine blk_put (cs := #[.int .i64 ((rd_T71 ((rd_T64 l0_1 x4_1).body) x6_2).kind), .string ((rd_T71 ((rd_T64 l0_1 x4_1).body) x6_2).atom.pred), .slice A113_2 ((rd_T71 ((rd_T64 l0_1 x4_1).body) x6_2).atom.args).length c113_2, .string ((rd_T71 ((rd_T64 l0_1 x4_1).body) x6_2).op), .bool ((rd_T71 ((rd_T64 l0_1 x4_1).body) x6_2).l.isVar), .string ((rd_T71 ((rd_T64 l0_1 x4_1).body) x6_2).l.name), .bool false, .string (⟨#[]⟩ : ByteArray), .int .i64 0, .bool false, .string (⟨#[]⟩ : ByteArray), .bool false, .string (⟨#[]⟩ : ByteArray), .int .i64 0]) ?_ 6 _ rfl; (with_reducible repeat (first | refine bN ?_ _ | refine bD ?_ | refine bA ?_ _)); refine blk_put (cs := #[.int .i64 ((rd_T71 ((rd_T64 l0_1 x4_1).body) x6_2).kind), .string ((rd_T71 ((rd_T64 l0_1 x4_1).body) x6_2).atom.pred), .slice A113_2 ((rd_T71 ((rd_T64 l0_1 x4_1).body) x6_2).atom.args).length c113_2, .string ((rd_T71 ((rd_T64 l0_1 x4_1).body) x6_2).op), .bool ((rd_T71 ((rd_T64 l0_1 x4_1).body) x6_2).l.isVar), .string (⟨#[]⟩ : ByteArray), .bool false, .string (⟨#[]⟩ : ByteArray), .int .i64 0, .bool false, .string (⟨#[]⟩ : ByteArray), .bool false, .string (⟨#[]⟩ : ByteArray), .int .i64 0]) ?_ 5 _ rfl; (with_reducible repeat (first | refine bN ?_ _ | refine bD ?_ | refine bA ?_ _)); refine blk_put (cs := #[.int .i64 ((rd_T71 ((rd_T64 l0_1 x4_1).body) x6_2).kind), .string ((rd_T71 ((rd_T64 l0_1 x4_1).body) x6_2).atom.pred), .slice A113_2 ((rd_T71 ((rd_T64 l0_1 x4_1).body) x6_2).atom.args).length c113_2, .string ((rd_T71 ((rd_T64 l0_1 x4_1).body) x6_2).op), .bool false, .string (⟨#[]⟩ : ByteArray), .bool false, .string (⟨#[]⟩ : ByteArray), .int .i64 0, .bool false, .string (⟨#[]⟩ : ByteArray), .bool false, .string (⟨#[]⟩ : ByteArray), .int .i64 0]) ?_ 4 _ rfl; (with_reducible repeat (first | refine bN ?_ _ | refine bD ?_ | refine bA ?_ _)); refine blk_put (cs := #[.int .i64 ((rd_T71 ((rd_T64 l0_1 x4_1).body) x6_2).kind), .string ((rd_T71 ((rd_T64 l0_1 x4_1).body) x6_2).atom.pred), .slice A113_2 ((rd_T71 ((rd_T64 l0_1 x4_1).body) x6_2).atom.args).length c113_2, .string (⟨#[]⟩ : ByteArray), .bool false, .string (⟨#[]⟩ : ByteArray), .bool false, .string (⟨#[]⟩ : ByteArray), .int .i64 0, .bool false, .string (⟨#[]⟩ : ByteArray), .bool false, .string (⟨#[]⟩ : ByteArray), .int .i64 0]) ?_ 3 _ rfl; (with_reducible repeat (first | refine bN ?_ _ | refine bD ?_ | refine bA ?_ _)); refine blk_put (cs := #[.int .i64 ((rd_T71 ((rd_T64 l0_1 x4_1).body) x6_2).kind), .string ((rd_T71 ((rd_T64 l0_1 x4_1).body) x6_2).atom.pred), .slice none 0 0, .string (⟨#[]⟩ : ByteArray), .bool false, .string (⟨#[]⟩ : ByteArray), .bool false, .string (⟨#[]⟩ : ByteArray), .int .i64 0, .bool false, .string (⟨#[]⟩ : ByteArray), .bool false, .string (⟨#[]⟩ : ByteArray), .int .i64 0]) ?_ 2 _ rfl; (with_reducible repeat (first | refine bN ?_ _ | refine bD ?_ | refine bA ?_ _)); refine blk_put (cs := #[.int .i64 ((rd_T71 ((rd_T64 l0_1 x4_1).body) x6_2).kind), .string (⟨#[]⟩ : ByteArray), .slice none 0 0, .string (⟨#[]⟩ : ByteArray), .bool false, .string (⟨#[]⟩ : ByteArray), .bool false, .string (⟨#[]⟩ : ByteArray), .int .i64 0, .bool false, .string (⟨#[]⟩ : ByteArray), .bool false, .string (⟨#[]⟩ : ByteArray), .int .i64 0]) ?_ 1 _ rfl; (with_reducible repeat (first | refine bN ?_ _ | refine bD ?_ | refine bA ?_ _)); refine blk_put (cs := #[.int .i64 0, .string (⟨#[]⟩ : ByteArray), .slice none 0 0, .string (⟨#[]⟩ : ByteArray), .bool false, .string (⟨#[]⟩ : ByteArray), .bool false, .string (⟨#[]⟩ : ByteArray), .int .i64 0, .bool false, .string (⟨#[]⟩ : ByteArray), .bool false, .string (⟨#[]⟩ : ByteArray), .int .i64 0]) ?_ 0 _ rfl; (with_reducible repeat (first | refine bN ?_ _ | refine bD ?_ | refine bA ?_ _)); exact BK114.out) hg (Kd.R_ne HO_3.out BK114.out (by decide))); replace HB := am (hb); have HO117 := am (ho); clear HO_3; clear ho hb hg hat))
             go_roundg k2
             case measure => have := HK1.out; have := HK2.out; omega
             case rel => exact ⟨(y115), (wrap64 (x6_2 + 1)), (by first | rfl | (simp; done) | (simp [*]; done)), H', ⟨by have := HK1.out; have := HK2.out; omega⟩, ⟨by (with_reducible repeat (first | apply Ra | apply Rn | apply Rd)); exact HO117.out⟩, ⟨by (with_reducible repeat (first | refine bN ?_ _ | refine bD ?_ | refine bA ?_ _)); exact BK101.out⟩, ⟨by (with_reducible repeat (first | refine bN ?_ _ | refine bD ?_ | refine bA ?_ _)); exact BK109.out⟩, ⟨by repeat (first | (with_reducible first | exact HB.out | apply lA | apply lN | apply lD | refine lS ?_ GE101.out | refine lS ?_ GE109.out | refine lS ?_ GE114.out) | exact HB.out)⟩⟩
            ·rw [if_neg c19] at H
             exact absurd H (by simp)
           ·rw [if_neg c18] at H
            have c18b0 : (((rd_T71 ((rd_T64 l0_1 x4_1).body) x6_2).kind) == 1) = false := beq_eq_false_iff_ne.mpr c18
            have c18b1 : (((rd_T71 ((rd_T64 l0_1 x4_1).body) x6_2).kind) != 1) = true := bne_iff_ne.mpr c18
            by_cases c27 : ((rd_T71 ((rd_T64 l0_1 x4_1).body) x6_2).kind) = 2
            ·rw [if_pos c27] at H
             have c27b0 : (((rd_T71 ((rd_T64 l0_1 x4_1).body) x6_2).kind) == 2) = true := beq_iff_eq.mpr c27
             have c27b1 : (((rd_T71 ((rd_T64 l0_1 x4_1).body) x6_2).kind) != 2) = false := bne_eq_false_iff_eq.mpr c27
             clear c27
             by_cases c28 : x3_2.length < 5864062014805
             ·rw [if_pos c28] at H
              have LMc28 := am c28
              clear c28
              obtain ⟨y118, hy118⟩ : ∃ y_ : List (Decl), y_ = (x3_2 ++ [(⟨(rd_T71 ((rd_T64 l0_1 x4_1).body) x6_2).atom.pred, (((rd_T71 ((rd_T64 l0_1 x4_1).body) x6_2).atom.args).length : Int)⟩ : Decl)]) := ⟨_, rfl⟩
              replace H : (lambrequinref08_Uses.l1 k2 y118 x4_1 (wrap64 (x6_2 + 1)) l0_0 l0_1 ((rd_T64 l0_1 x4_1).head.pred) ((rd_T64 l0_1 x4_1).head.args) ((rd_T64 l0_1 x4_1).body)) = some r := by first | (rw [hy118]; with_reducible exact H) | (have H2_ := (Option.bind_some _ _).symm.trans H; rw [hy118]; with_reducible exact H2_) | (have H2_ := (Option.bind_some _ _).symm.trans H; with_reducible exact H2_) | with_reducible exact H | (rw [hy118]; exact H) | exact H
              have Ny118 := am hy118
              clear hy118
              have H' := am H
              clear H
              have hnb29 := NB109_101.out
              have hnc29 := NB101_109.out
              have hcz30_0 : wr.cell? ⟨gb109, 0, none⟩ = some (.string ((rd_T64 l0_1 x4_1).head.pred)) := (blk_cell BK109.out 0).trans rfl
              have hcz30_1 : wr.cell? ⟨gb109, 1, none⟩ = some (.slice A108_1 ((rd_T64 l0_1 x4_1).head.args).length c108_1) := (blk_cell BK109.out 1).trans rfl
              have hcz30_2 : wr.cell? ⟨gb109, 2, none⟩ = some (.slice A108_2 ((rd_T64 l0_1 x4_1).body).length c108_2) := (blk_cell BK109.out 2).trans rfl
              have hfz30_0 := blk_frozen BK109.out 0
              have hfz30_1 := blk_frozen BK109.out 1
              have hfz30_2 := blk_frozen BK109.out 2
              have p113 : 0 ≤ (x6_2 : Int) := of_decide_eq_true (by first | (with_reducible assumption) | assumption)
              have q113 : x6_2 < (((rd_T64 l0_1 x4_1).body).length : Int) := of_decide_eq_true (by first | (with_reducible assumption) | assumption)
              obtain ⟨ad113, A113_2, c113_2, e113, hx113_0, hx113_1, hx113_2, hx113_3, hx113_4, hx113_5, hx113_6, hx113_7, hx113_8, hx113_9, hx113_10, hx113_11, hx113_12, hx113_13, hl113_2, hi113_2⟩ := at_T71 HR108_2.out x6_2 p113 q113
              cases e113
              replace hx113_0 := (HB.out.cell (blt_ hx113_0)).trans hx113_0
              replace hx113_1 := (HB.out.cell (blt_ hx113_1)).trans hx113_1
              replace hx113_2 := (HB.out.cell (blt_ hx113_2)).trans hx113_2
              replace hx113_3 := (HB.out.cell (blt_ hx113_3)).trans hx113_3
              replace hx113_4 := (HB.out.cell (blt_ hx113_4)).trans hx113_4
              replace hx113_5 := (HB.out.cell (blt_ hx113_5)).trans hx113_5
              replace hx113_6 := (HB.out.cell (blt_ hx113_6)).trans hx113_6
              replace hx113_7 := (HB.out.cell (blt_ hx113_7)).trans hx113_7
              replace hx113_8 := (HB.out.cell (blt_ hx113_8)).trans hx113_8
              replace hx113_9 := (HB.out.cell (blt_ hx113_9)).trans hx113_9
              replace hx113_10 := (HB.out.cell (blt_ hx113_10)).trans hx113_10
              replace hx113_11 := (HB.out.cell (blt_ hx113_11)).trans hx113_11
              replace hx113_12 := (HB.out.cell (blt_ hx113_12)).trans hx113_12
              replace hx113_13 := (HB.out.cell (blt_ hx113_13)).trans hx113_13
              have HR113_2 := am hi113_2
              have HC113_2 := am hl113_2
              clear hi113_2 hl113_2
              replace p113 := eq_true p113
              replace q113 := eq_true q113
              go_wp2_with (first | ((with_reducible refine gate_dst (N := 7) rfl ?_); refine box_event ?hg (N := 7) ?hd (cs := #[.int .i64 0, .string (⟨#[]⟩ : ByteArray), .slice none 0 0, .string (⟨#[]⟩ : ByteArray), .bool false, .string (⟨#[]⟩ : ByteArray), .bool false, .string (⟨#[]⟩ : ByteArray), .int .i64 0, .bool false, .string (⟨#[]⟩ : ByteArray), .bool false, .string (⟨#[]⟩ : ByteArray), .int .i64 0]) (t := 71) ?hr ?_; (case hd => rfl); (case hg => rfl); (case hr => first | (go_simp; done) | (go_simp; rfl)); intro gb114 hg w31 hbox hb; replace HO_3 := am (Kd.R_below (by (with_reducible repeat (first | apply Ra | apply Rn | apply Rd)); exact HO_3.out) hb); have BK114 := am (hbox); have GW114 := am ((by rw [hg]; exact (below_size (by repeat (first | (with_reducible first | exact HB.out | apply lA | apply lN | apply lD | refine lS ?_ GE101.out | refine lS ?_ GE109.out) | exact HB.out))) : w.heap.size ≤ gb114)); have GE114 := am ((by rw [hg]; exact (below_size (by repeat (first | (with_reducible first | exact HB.out | apply lA | apply lN | apply lD | refine lS ?_ GE101.out | refine lS ?_ GE109.out) | exact HB.out))) : w.heap.size ≤ gb114)); replace HB := am (below_step (by repeat (first | (with_reducible first | exact HB.out | apply lA | apply lN | apply lD | refine lS ?_ GE101.out | refine lS ?_ GE109.out) | exact HB.out)) hb); have NB101_114 := am ((by rw [hg]; exact Nat.ne_of_lt (blk_lt (g := gb101) (o := .cells #[.slice A0_0 l0_0.length c0_0, .slice (some ad108) l0_1.length c0_1] 50 (0, 0)) (by (with_reducible repeat (first | refine bN ?_ _ | refine bD ?_ | refine bA ?_ _)); exact BK101.out)) : gb101 ≠ gb114)); have NB114_101 := am ((by rw [hg]; exact Nat.ne_of_gt (blk_lt (g := gb101) (o := .cells #[.slice A0_0 l0_0.length c0_0, .slice (some ad108) l0_1.length c0_1] 50 (0, 0)) (by (with_reducible repeat (first | refine bN ?_ _ | refine bD ?_ | refine bA ?_ _)); exact BK101.out)) : gb114 ≠ gb101)); replace BK101 := am (blk_below (g := gb101) (o := .cells #[.slice A0_0 l0_0.length c0_0, .slice (some ad108) l0_1.length c0_1] 50 (0, 0)) (by (with_reducible repeat (first | refine bN ?_ _ | refine bD ?_ | refine bA ?_ _)); exact BK101.out) hb); have NB109_114 := am ((by rw [hg]; exact Nat.ne_of_lt (blk_lt (g := gb109) (o := .cells #[.string ((rd_T64 l0_1 x4_1).head.pred), .slice A108_1 ((rd_T64 l0_1 x4_1).head.args).length c108_1, .slice (some ad113) ((rd_T64 l0_1 x4_1).body).length c108_2] 64 (0, 0)) (by (with_reducible repeat (first | refine bN ?_ _ | refine bD ?_ | refine bA ?_ _)); exact BK109.out)) : gb109 ≠ gb114)); have NB114_109 := am ((by rw [hg]; exact Nat.ne_of_gt (blk_lt (g := gb109) (o := .cells #[.string ((rd_T64 l0_1 x4_1).head.pred), .slice A108_1 ((rd_T64 l0_1 x4_1).head.args).length c108_1, .slice (some ad113) ((rd_T64 l0_1 x4_1).body).length c108_2] 64 (0, 0)) (by (with_reducible repeat (first | refine bN ?_ _ | refine bD ?_ | refine bA ?_ _)); exact BK109.out)) : gb114 ≠ gb109)); replace BK109 := am (blk_below (g := gb109) (o := .cells #[.string ((rd_T64 l0_1 x4_1).head.pred), .slice A108_1 ((rd_T64 l0_1 x4_1).head.args).length c108_1, .slice (some ad113) ((rd_T64 l0_1 x4_1).body).length c108_2] 64 (0, 0)) (by (with_reducible repeat (first | refine bN ?_ _ | refine bD ?_ | refine bA ?_ _)); exact BK109.out) hb); clear hb hbox hg; have hnb32 := NB114_101.out; have hnc32 := NB101_114.out; have hnb33 := NB114_109.out; have hnc33 := NB109_114.out; have hcz34_0 : w31.cell? ⟨gb114, 0, none⟩ = some (.int .i64 0) := (blk_cell BK114.out 0).trans rfl; have hcz34_1 : w31.cell? ⟨gb114, 1, none⟩ = some (.string (⟨#[]⟩ : ByteArray)) := (blk_cell BK114.out 1).trans rfl; have hcz34_2 : w31.cell? ⟨gb114, 2, none⟩ = some (.slice none 0 0) := (blk_cell BK114.out 2).trans rfl; have hcz34_3 : w31.cell? ⟨gb114, 3, none⟩ = some (.string (⟨#[]⟩ : ByteArray)) := (blk_cell BK114.out 3).trans rfl; have hcz34_4 : w31.cell? ⟨gb114, 4, none⟩ = some (.bool false) := (blk_cell BK114.out 4).trans rfl; have hcz34_5 : w31.cell? ⟨gb114, 5, none⟩ = some (.string (⟨#[]⟩ : ByteArray)) := (blk_cell BK114.out 5).trans rfl; have hcz34_6 : w31.cell? ⟨gb114, 6, none⟩ = some (.bool false) := (blk_cell BK114.out 6).trans rfl; have hcz34_7 : w31.cell? ⟨gb114, 7, none⟩ = some (.string (⟨#[]⟩ : ByteArray)) := (blk_cell BK114.out 7).trans rfl; have hcz34_8 : w31.cell? ⟨gb114, 8, none⟩ = some (.int .i64 0) := (blk_cell BK114.out 8).trans rfl; have hcz34_9 : w31.cell? ⟨gb114, 9, none⟩ = some (.bool false) := (blk_cell BK114.out 9).trans rfl; have hcz34_10 : w31.cell? ⟨gb114, 10, none⟩ = some (.string (⟨#[]⟩ : ByteArray)) := (blk_cell BK114.out 10).trans rfl; have hcz34_11 : w31.cell? ⟨gb114, 11, none⟩ = some (.bool false) := (blk_cell BK114.out 11).trans rfl; have hcz34_12 : w31.cell? ⟨gb114, 12, none⟩ = some (.string (⟨#[]⟩ : ByteArray)) := (blk_cell BK114.out 12).trans rfl; have hcz34_13 : w31.cell? ⟨gb114, 13, none⟩ = some (.int .i64 0) := (blk_cell BK114.out 13).trans rfl; have hfz34_0 := blk_frozen BK114.out 0; have hfz34_1 := blk_frozen BK114.out 1; have hfz34_2 := blk_frozen BK114.out 2; have hfz34_3 := blk_frozen BK114.out 3; have hfz34_4 := blk_frozen BK114.out 4; have hfz34_5 := blk_frozen BK114.out 5; have hfz34_6 := blk_frozen BK114.out 6; have hfz34_7 := blk_frozen BK114.out 7; have hfz34_8 := blk_frozen BK114.out 8; have hfz34_9 := blk_frozen BK114.out 9; have hfz34_10 := blk_frozen BK114.out 10; have hfz34_11 := blk_frozen BK114.out 11; have hfz34_12 := blk_frozen BK114.out 12; have hfz34_13 := blk_frozen BK114.out 13) | ((with_reducible refine gate_builtin (b := .append) (xs := #[.tmp 55, .tmp 64]) rfl ?_); at_builtin; refine Kd.R_append k96 (w0 := w) w.heap.size rfl (.tmp 55) (.tmp 64) 47 96 (.agg #[(.string ⟨#[]⟩), (.int .i64 0)]) 24 rfl Try.underlying47 info96 rfl (by decide) (by omega) u3 x3_2 (⟨(rd_T71 ((rd_T64 l0_1 x4_1).body) x6_2).atom.pred, (((rd_T71 ((rd_T64 l0_1 x4_1).body) x6_2).atom.args).length : Int)⟩ : Decl) [.string ((rd_T71 ((rd_T64 l0_1 x4_1).body) x6_2).atom.pred), .int .i64 (((rd_T71 ((rd_T64 l0_1 x4_1).body) x6_2).atom.args).length : Int)] (fun _ => True) (fun _ => False) rfl (by first | (go_simp; done) | (go_simp; rfl)) ?aP (fun _ hk => hk.elim) ?aF ?aO ?aB ?aS ?aL ?_; (case aP => exact k96_mkM _ _ _ (⟨(rd_T71 ((rd_T64 l0_1 x4_1).body) x6_2).atom.pred, (((rd_T71 ((rd_T64 l0_1 x4_1).body) x6_2).atom.args).length : Int)⟩ : Decl)); (case aB => exact (by repeat (first | (with_reducible first | exact HB.out | apply lA | apply lN | apply lD | refine lS ?_ GE101.out | refine lS ?_ GE109.out | refine lS ?_ GE114.out) | exact HB.out))); (case aF => exact (fun _ _ => trivial)); (case aO => exact (by (with_reducible repeat (first | apply Ra | apply Rn | apply Rd)); exact Kd.R_mono (Kd.R_far (p := ⟨gb114, 13, none⟩) (Kd.R_far (p := ⟨gb114, 12, none⟩) (Kd.R_far (p := ⟨gb114, 11, none⟩) (Kd.R_far (p := ⟨gb114, 10, none⟩) (Kd.R_far (p := ⟨gb114, 9, none⟩) (Kd.R_far (p := ⟨gb114, 8, none⟩) (Kd.R_far (p := ⟨gb114, 7, none⟩) (Kd.R_far (p := ⟨gb114, 6, none⟩) (Kd.R_far (p := ⟨gb114, 5, none⟩) (Kd.R_far (p := ⟨gb114, 4, none⟩) (Kd.R_far (p := ⟨gb114, 3, none⟩) (Kd.R_far (p := ⟨gb114, 2, none⟩) (Kd.R_far (p := ⟨gb114, 1, none⟩) (Kd.R_far (p := ⟨gb114, 0, none⟩) (Kd.R_types HO_3.out BK114.out (by decide)) (fun _ hk => hk.2) _) (fun _ hk => hk.2) _) (fun _ hk => hk.2) _) (fun _ hk => hk.2) _) (fun _ hk => hk.2) _) (fun _ hk => hk.2) _) (fun _ hk => hk.2) _) (fun _ hk => hk.2) _) (fun _ hk => hk.2) _) (fun _ hk => hk.2) _) (fun _ hk => hk.2) _) (fun _ hk => hk.2) _) (fun _ hk => hk.2) _) (fun _ hk => hk.2) _) (fun _ hk => trivial))); (case aS => exact (below_size (by repeat (first | (with_reducible first | exact HB.out | apply lA | apply lN | apply lD | refine lS ?_ GE101.out | refine lS ?_ GE109.out | refine lS ?_ GE114.out) | exact HB.out)))); (case aL => have := LMc28.out; omega); intro v119 w35 ho hb hg hat; rw [← Ny118.out] at ho; replace BK101 := am (blk_grown (g := gb101) (o := .cells #[.slice A0_0 l0_0.length c0_0, .slice (some ad108) l0_1.length c0_1] 50 (0, 0)) (by repeat (first | (with_reducible first | exact BK101.out | refine bN ?_ _ | refine bD ?_ | refine bA ?_ _) | refine blk_far ?_ NB101_114.out _ | exact BK101.out)) hg (Kd.R_ne HO_3.out BK101.out (by decide))); replace BK109 := am (blk_grown (g := gb109) (o := .cells #[.string ((rd_T64 l0_1 x4_1).head.pred), .slice A108_1 ((rd_T64 l0_1 x4_1).head.args).length c108_1, .slice (some ad113) ((rd_T64 l0_1 x4_1).body).length c108_2] 64 (0, 0)) (by repeat (first | (with_reducible first | exact BK109.out | refine bN ?_ _ | refine bD ?_ | refine bA ?_ _) | refine blk_far ?_ NB109_114.out _ | exact BK109.out)) hg (Kd.R_ne HO_3.out BK109.out (by decide))); replace BK114 := am (blk_grown (g := gb114) (o := .cells #[.int .i64 ((rd_T71 ((rd_T64 l0_1 x4_1).body) x6_2).kind), .string ((rd_T71 ((rd_T64 l0_1 x4_1).body) x6_2).atom.pred), .slice A113_2 ((rd_T71 ((rd_T64 l0_1 x4_1).body) x6_2).atom.args).length c113_2, .string ((rd_T71 ((rd_T64 l0_1 x4_1).body) x6_2).op), .bool ((rd_T71 ((rd_T64 l0_1 x4_1).body) x6_2).l.isVar), .string ((rd_T71 ((rd_T64 l0_1 x4_1).body) x6_2).l.name), .bool ((rd_T71 ((rd_T64 l0_1 x4_1).body) x6_2).l.val.isSym), .string ((rd_T71 ((rd_T64 l0_1 x4_1).body) x6_2).l.val.sym), .int .i64 ((rd_T71 ((rd_T64 l0_1 x4_1).body) x6_2).l.val.n), .bool ((rd_T71 ((rd_T64 l0_1 x4_1).body) x6_2).r.isVar), .string ((rd_T71 ((rd_T64 l0_1 x4_1).body) x6_2).r.name), .bool ((rd_T71 ((rd_T64 l0_1 x4_1).body) x6_2).r.val.isSym), .string ((rd_T71 ((rd_T64 l0_1 x4_1).body) x6_2).r.val.sym), .int .i64 ((rd_T71 ((rd_T64 l0_1 x4_1).body) x6_2).r.val.n)] 71 (0, 0)) (by (with_reducible repeat (first | refine bN ?_ _ | refine bD ?_ | refine bA ?_ _)); refine blk_put (cs := #[.int .i64 ((rd_T71 ((rd_T64 l0_1 x4_1).body) x6_2).kind), .string ((rd_T71 ((rd_T64 l0_1 x4_1).body) x6_2).atom.pred), .slice A113_2 ((rd_T71 ((rd_T64 l0_1 x4_1).body) x6_2).atom.args).length c113_2, .string ((rd_T71 ((rd_T64 l0_1 x4_1).body) x6_2).op), .bool ((rd_T71 ((rd_T64 l0_1 x4_1).body) x6_2).l.isVar), .string ((rd_T71 ((rd_T64 l0_1 x4_1).body) x6_2).l.name), .bool ((rd_T71 ((rd_T64 l0_1 x4_1).body) x6_2).l.val.isSym), .string ((rd_T71 ((rd_T64 l0_1 x4_1).body) x6_2).l.val.sym), .int .i64 ((rd_T71 ((rd_T64 l0_1 x4_1).body) x6_2).l.val.n), .bool ((rd_T71 ((rd_T64 l0_1 x4_1).body) x6_2).r.isVar), .string ((rd_T71 ((rd_T64 l0_1 x4_1).body) x6_2).r.name), .bool ((rd_T71 ((rd_T64 l0_1 x4_1).body) x6_2).r.val.isSym), .string ((rd_T71 ((rd_T64 l0_1 x4_1).body) x6_2).r.val.sym), .int .i64 0]) ?_ 13 _ rfl; (with_reducible repeat (first | refine bN ?_ _ | refine bD ?_ | refine bA ?_ _)); refine blk_put (cs := #[.int .i64 ((rd_T71 ((rd_T64 l0_1 x4_1).body) x6_2).kind), .string ((rd_T71 ((rd_T64 l0_1 x4_1).body) x6_2).atom.pred), .slice A113_2 ((rd_T71 ((rd_T64 l0_1 x4_1).body) x6_2).atom.args).length c113_2, .string ((rd_T71 ((rd_T64 l0_1 x4_1).body) x6_2).op), .bool ((rd_T71 ((rd_T64 l0_1 x4_1).body) x6_2).l.isVar), .string ((rd_T71 ((rd_T64 l0_1 x4_1).body) x6_2).l.name), .bool ((rd_T71 ((rd_T64 l0_1 x4_1).body) x6_2).l.val.isSym), .string ((rd_T71 ((rd_T64 l0_1 x4_1).body) x6_2).l.val.sym), .int .i64 ((rd_T71 ((rd_T64 l0_1 x4_1).body) x6_2).l.val.n), .bool ((rd_T71 ((rd_T64 l0_1 x4_1).body) x6_2).r.isVar), .string ((rd_T71 ((rd_T64 l0_1 x4_1).body) x6_2).r.name), .bool ((rd_T71 ((rd_T64 l0_1 x4_1).body) x6_2).r.val.isSym), .string (⟨#[]⟩ : ByteArray), .int .i64 0]) ?_ 12 _ rfl; (with_reducible repeat (first | refine bN ?_ _ | refine bD ?_ | refine bA ?_ _)); refine blk_put (cs := #[.int .i64 ((rd_T71 ((rd_T64 l0_1 x4_1).body) x6_2).kind), .string ((rd_T71 ((rd_T64 l0_1 x4_1).body) x6_2).atom.pred), .slice A113_2 ((rd_T71 ((rd_T64 l0_1 x4_1).body) x6_2).atom.args).length c113_2, .string ((rd_T71 ((rd_T64 l0_1 x4_1).body) x6_2).op), .bool ((rd_T71 ((rd_T64 l0_1 x4_1).body) x6_2).l.isVar), .string ((rd_T71 ((rd_T64 l0_1 x4_1).body) x6_2).l.name), .bool ((rd_T71 ((rd_T64 l0_1 x4_1).body) x6_2).l.val.isSym), .string ((rd_T71 ((rd_T64 l0_1 x4_1).body) x6_2).l.val.sym), .int .i64 ((rd_T71 ((rd_T64 l0_1 x4_1).body) x6_2).l.val.n), .bool ((rd_T71 ((rd_T64 l0_1 x4_1).body) x6_2).r.isVar), .string ((rd_T71 ((rd_T64 l0_1 x4_1).body) x6_2).r.name), .bool false, .string (⟨#[]⟩ : ByteArray), .int .i64 0]) ?_ 11 _ rfl; (with_reducible repeat (first | refine bN ?_ _ | refine bD ?_ | refine bA ?_ _)); refine blk_put (cs := #[.int .i64 ((rd_T71 ((rd_T64 l0_1 x4_1).body) x6_2).kind), .string ((rd_T71 ((rd_T64 l0_1 x4_1).body) x6_2).atom.pred), .slice A113_2 ((rd_T71 ((rd_T64 l0_1 x4_1).body) x6_2).atom.args).length c113_2, .string ((rd_T71 ((rd_T64 l0_1 x4_1).body) x6_2).op), .bool ((rd_T71 ((rd_T64 l0_1 x4_1).body) x6_2).l.isVar), .string ((rd_T71 ((rd_T64 l0_1 x4_1).body) x6_2).l.name), .bool ((rd_T71 ((rd_T64 l0_1 x4_1).body) x6_2).l.val.isSym), .string ((rd_T71 ((rd_T64 l0_1 x4_1).body) x6_2).l.val.sym), .int .i64 ((rd_T71 ((rd_T64 l0_1 x4_1).body) x6_2).l.val.n), .bool ((rd_T71 ((rd_T64 l0_1 x4_1).body) x6_2).r.isVar), .string (⟨#[]⟩ : ByteArray), .bool false, .string (⟨#[]⟩ : ByteArray), .int .i64 0]) ?_ 10 _ rfl; (with_reducible repeat (first | refine bN ?_ _ | refine bD ?_ | refine bA ?_ _)); refine blk_put (cs := #[.int .i64 ((rd_T71 ((rd_T64 l0_1 x4_1).body) x6_2).kind), .string ((rd_T71 ((rd_T64 l0_1 x4_1).body) x6_2).atom.pred), .slice A113_2 ((rd_T71 ((rd_T64 l0_1 x4_1).body) x6_2).atom.args).length c113_2, .string ((rd_T71 ((rd_T64 l0_1 x4_1).body) x6_2).op), .bool ((rd_T71 ((rd_T64 l0_1 x4_1).body) x6_2).l.isVar), .string ((rd_T71 ((rd_T64 l0_1 x4_1).body) x6_2).l.name), .bool ((rd_T71 ((rd_T64 l0_1 x4_1).body) x6_2).l.val.isSym), .string ((rd_T71 ((rd_T64 l0_1 x4_1).body) x6_2).l.val.sym), .int .i64 ((rd_T71 ((rd_T64 l0_1 x4_1).body) x6_2).l.val.n), .bool false, .string (⟨#[]⟩ : ByteArray), .bool false, .string (⟨#[]⟩ : ByteArray), .int .i64 0]) ?_ 9 _ rfl; (with_reducible repeat (first | refine bN ?_ _ | refine bD ?_ | refine bA ?_ _)); refine blk_put (cs := #[.int .i64 ((rd_T71 ((rd_T64 l0_1 x4_1).body) x6_2).kind), .string ((rd_T71 ((rd_T64 l0_1 x4_1).body) x6_2).atom.pred), .slice A113_2 ((rd_T71 ((rd_T64 l0_1 x4_1).body) x6_2).atom.args).length c113_2, .string ((rd_T71 ((rd_T64 l0_1 x4_1).body) x6_2).op), .bool ((rd_T71 ((rd_T64 l0_1 x4_1).body) x6_2).l.isVar), .string ((rd_T71 ((rd_T64 l0_1 x4_1).body) x6_2).l.name), .bool ((rd_T71 ((rd_T64 l0_1 x4_1).body) x6_2).l.val.isSym), .string ((rd_T71 ((rd_T64 l0_1 x4_1).body) x6_2).l.val.sym), .int .i64 0, .bool false, .string (⟨#[]⟩ : ByteArray), .bool false, .string (⟨#[]⟩ : ByteArray), .int .i64 0]) ?_ 8 _ rfl; (with_reducible repeat (first | refine bN ?_ _ | refine bD ?_ | refine bA ?_ _)); refine blk_put (cs := #[.int .i64 ((rd_T71 ((rd_T64 l0_1 x4_1).body) x6_2).kind), .string ((rd_T71 ((rd_T64 l0_1 x4_1).body) x6_2).atom.pred), .slice A113_2 ((rd_T71 ((rd_T64 l0_1 x4_1).body) x6_2).atom.args).length c113_2, .string ((rd_T71 ((rd_T64 l0_1 x4_1).body) x6_2).op), .bool ((rd_T71 ((rd_T64 l0_1 x4_1).body) x6_2).l.isVar), .string ((rd_T71 ((rd_T64 l0_1 x4_1).body) x6_2).l.name), .bool ((rd_T71 ((rd_T64 l0_1 x4_1).body) x6_2).l.val.isSym), .string (⟨#[]⟩ : ByteArray), .int .i64 0, .bool false, .string (⟨#[]⟩ : ByteArray), .bool false, .string (⟨#[]⟩ : ByteArray), .int .i64 0]) ?_ 7 _ rfl; (with_reducible repeat (first | refine bN ?_ _ | refine bD ?_ | refine bA ?_ _)); refine blk_put (cs := #[.int .i64 ((rd_T71 ((rd_T64 l0_1 x4_1).body) x6_2).kind), .string ((rd_T71 ((rd_T64 l0_1 x4_1).body) x6_2).atom.pred), .slice A113_2 ((rd_T71 ((rd_T64 l0_1 x4_1).body) x6_2).atom.args).length c113_2, .string ((rd_T71 ((rd_T64 l0_1 x4_1).body) x6_2).op), .bool ((rd_T71 ((rd_T64 l0_1 x4_1).body) x6_2).l.isVar), .string ((rd_T71 ((rd_T64 l0_1 x4_1).body) x6_2).l.name), .bool false, .string (⟨#[]⟩ : ByteArray), .int .i64 0, .bool false, .string (⟨#[]⟩ : ByteArray), .bool false, .string (⟨#[]⟩ : ByteArray), .int .i64 0]) ?_ 6 _ rfl; (with_reducible repeat (first | refine bN ?_ _ | refine bD ?_ | refine bA ?_ _)); refine blk_put (cs := #[.int .i64 ((rd_T71 ((rd_T64 l0_1 x4_1).body) x6_2).kind), .string ((rd_T71 ((rd_T64 l0_1 x4_1).body) x6_2).atom.pred), .slice A113_2 ((rd_T71 ((rd_T64 l0_1 x4_1).body) x6_2).atom.args).length c113_2, .string ((rd_T71 ((rd_T64 l0_1 x4_1).body) x6_2).op), .bool ((rd_T71 ((rd_T64 l0_1 x4_1).body) x6_2).l.isVar), .string (⟨#[]⟩ : ByteArray), .bool false, .string (⟨#[]⟩ : ByteArray), .int .i64 0, .bool false, .string (⟨#[]⟩ : ByteArray), .bool false, .string (⟨#[]⟩ : ByteArray), .int .i64 0]) ?_ 5 _ rfl; (with_reducible repeat (first | refine bN ?_ _ | refine bD ?_ | refine bA ?_ _)); refine blk_put (cs := #[.int .i64 ((rd_T71 ((rd_T64 l0_1 x4_1).body) x6_2).kind), .string ((rd_T71 ((rd_T64 l0_1 x4_1).body) x6_2).atom.pred), .slice A113_2 ((rd_T71 ((rd_T64 l0_1 x4_1).body) x6_2).atom.args).length c113_2, .string ((rd_T71 ((rd_T64 l0_1 x4_1).body) x6_2).op), .bool false, .string (⟨#[]⟩ : ByteArray), .bool false, .string (⟨#[]⟩ : ByteArray), .int .i64 0, .bool false, .string (⟨#[]⟩ : ByteArray), .bool false, .string (⟨#[]⟩ : ByteArray), .int .i64 0]) ?_ 4 _ rfl; (with_reducible repeat (first | refine bN ?_ _ | refine bD ?_ | refine bA ?_ _)); refine blk_put (cs := #[.int .i64 ((rd_T71 ((rd_T64 l0_1 x4_1).body) x6_2).kind), .string ((rd_T71 ((rd_T64 l0_1 x4_1).body) x6_2).atom.pred), .slice A113_2 ((rd_T71 ((rd_T64 l0_1 x4_1).body) x6_2).atom.args).length c113_2, .string (⟨#[]⟩ : ByteArray), .bool false, .string (⟨#[]⟩ : ByteArray), .bool false, .string (⟨#[]⟩ : ByteArray), .int .i64 0, .bool false, .string (⟨#[]⟩ : ByteArray), .bool false, .string (⟨#[]⟩ : ByteArray), .int .i64 0]) ?_ 3 _ rfl; (with_reducible repeat (first | refine bN ?_ _ | refine bD ?_ | refine bA ?_ _)); refine blk_put (cs := #[.int .i64 ((rd_T71 ((rd_T64 l0_1 x4_1).body) x6_2).kind), .string ((rd_T71 ((rd_T64 l0_1 x4_1).body) x6_2).atom.pred), .slice none 0 0, .string (⟨#[]⟩ : ByteArray), .bool false, .string (⟨#[]⟩ : ByteArray), .bool false, .string (⟨#[]⟩ : ByteArray), .int .i64 0, .bool false, .string (⟨#[]⟩ : ByteArray), .bool false, .string (⟨#[]⟩ : ByteArray), .int .i64 0]) ?_ 2 _ rfl; (with_reducible repeat (first | refine bN ?_ _ | refine bD ?_ | refine bA ?_ _)); refine blk_put (cs := #[.int .i64 ((rd_T71 ((rd_T64 l0_1 x4_1).body) x6_2).kind), .string (⟨#[]⟩ : ByteArray), .slice none 0 0, .string (⟨#[]⟩ : ByteArray), .bool false, .string (⟨#[]⟩ : ByteArray), .bool false, .string (⟨#[]⟩ : ByteArray), .int .i64 0, .bool false, .string (⟨#[]⟩ : ByteArray), .bool false, .string (⟨#[]⟩ : ByteArray), .int .i64 0]) ?_ 1 _ rfl; (with_reducible repeat (first | refine bN ?_ _ | refine bD ?_ | refine bA ?_ _)); refine blk_put (cs := #[.int .i64 0, .string (⟨#[]⟩ : ByteArray), .slice none 0 0, .string (⟨#[]⟩ : ByteArray), .bool false, .string (⟨#[]⟩ : ByteArray), .bool false, .string (⟨#[]⟩ : ByteArray), .int .i64 0, .bool false, .string (⟨#[]⟩ : ByteArray), .bool false, .string (⟨#[]⟩ : ByteArray), .int .i64 0]) ?_ 0 _ rfl; (with_reducible repeat (first | refine bN ?_ _ | refine bD ?_ | refine bA ?_ _)); exact BK114.out) hg (Kd.R_ne HO_3.out BK114.out (by decide))); replace HB := am (hb); have HO120 := am (ho); clear HO_3; clear ho hb hg hat))
              go_roundg k2
              case measure => have := HK1.out; have := HK2.out; omega
              case rel => exact ⟨(y118), (wrap64 (x6_2 + 1)), (by first | rfl | (simp; done) | (simp [*]; done)), H', ⟨by have := HK1.out; have := HK2.out; omega⟩, ⟨by (with_reducible repeat (first | apply Ra | apply Rn | apply Rd)); exact HO120.out⟩, ⟨by (with_reducible repeat (first | refine bN ?_ _ | refine bD ?_ | refine bA ?_ _)); exact BK101.out⟩, ⟨by (with_reducible repeat (first | refine bN ?_ _ | refine bD ?_ | refine bA ?_ _)); exact BK109.out⟩, ⟨by repeat (first | (with_reducible first | exact HB.out | apply lA | apply lN | apply lD | refine lS ?_ GE101.out | refine lS ?_ GE109.out | refine lS ?_ GE114.out) | exact HB.out)⟩⟩
             ·rw [if_neg c28] at H
              exact absurd H (by simp)
            ·rw [if_neg c27] at H
             have c27b0 : (((rd_T71 ((rd_T64 l0_1 x4_1).body) x6_2).kind) == 2) = false := beq_eq_false_iff_ne.mpr c27
             have c27b1 : (((rd_T71 ((rd_T64 l0_1 x4_1).body) x6_2).kind) != 2) = true := bne_iff_ne.mpr c27
             have H' := am H
             clear H
             have hnb36 := NB109_101.out
             have hnc36 := NB101_109.out
             have hcz37_0 : wr.cell? ⟨gb109, 0, none⟩ = some (.string ((rd_T64 l0_1 x4_1).head.pred)) := (blk_cell BK109.out 0).trans rfl
             have hcz37_1 : wr.cell? ⟨gb109, 1, none⟩ = some (.slice A108_1 ((rd_T64 l0_1 x4_1).head.args).length c108_1) := (blk_cell BK109.out 1).trans rfl
             have hcz37_2 : wr.cell? ⟨gb109, 2, none⟩ = some (.slice A108_2 ((rd_T64 l0_1 x4_1).body).length c108_2) := (blk_cell BK109.out 2).trans rfl
             have hfz37_0 := blk_frozen BK109.out 0
             have hfz37_1 := blk_frozen BK109.out 1
             have hfz37_2 := blk_frozen BK109.out 2
             have p113 : 0 ≤ (x6_2 : Int) := of_decide_eq_true (by first | (with_reducible assumption) | assumption)
             have q113 : x6_2 < (((rd_T64 l0_1 x4_1).body).length : Int) := of_decide_eq_true (by first | (with_reducible assumption) | assumption)
             obtain ⟨ad113, A113_2, c113_2, e113, hx113_0, hx113_1, hx113_2, hx113_3, hx113_4, hx113_5, hx113_6, hx113_7, hx113_8, hx113_9, hx113_10, hx113_11, hx113_12, hx113_13, hl113_2, hi113_2⟩ := at_T71 HR108_2.out x6_2 p113 q113
             cases e113
             replace hx113_0 := (HB.out.cell (blt_ hx113_0)).trans hx113_0
             replace hx113_1 := (HB.out.cell (blt_ hx113_1)).trans hx113_1
             replace hx113_2 := (HB.out.cell (blt_ hx113_2)).trans hx113_2
             replace hx113_3 := (HB.out.cell (blt_ hx113_3)).trans hx113_3
             replace hx113_4 := (HB.out.cell (blt_ hx113_4)).trans hx113_4
             replace hx113_5 := (HB.out.cell (blt_ hx113_5)).trans hx113_5
             replace hx113_6 := (HB.out.cell (blt_ hx113_6)).trans hx113_6
             replace hx113_7 := (HB.out.cell (blt_ hx113_7)).trans hx113_7
             replace hx113_8 := (HB.out.cell (blt_ hx113_8)).trans hx113_8
             replace hx113_9 := (HB.out.cell (blt_ hx113_9)).trans hx113_9
             replace hx113_10 := (HB.out.cell (blt_ hx113_10)).trans hx113_10
             replace hx113_11 := (HB.out.cell (blt_ hx113_11)).trans hx113_11
             replace hx113_12 := (HB.out.cell (blt_ hx113_12)).trans hx113_12
             replace hx113_13 := (HB.out.cell (blt_ hx113_13)).trans hx113_13
             have HR113_2 := am hi113_2
             have HC113_2 := am hl113_2
             clear hi113_2 hl113_2
             replace p113 := eq_true p113
             replace q113 := eq_true q113
             go_wp2_with (first | ((with_reducible refine gate_dst (N := 7) rfl ?_); refine box_event ?hg (N := 7) ?hd (cs := #[.int .i64 0, .string (⟨#[]⟩ : ByteArray), .slice none 0 0, .string (⟨#[]⟩ : ByteArray), .bool false, .string (⟨#[]⟩ : ByteArray), .bool false, .string (⟨#[]⟩ : ByteArray), .int .i64 0, .bool false, .string (⟨#[]⟩ : ByteArray), .bool false, .string (⟨#[]⟩ : ByteArray), .int .i64 0]) (t := 71) ?hr ?_; (case hd => rfl); (case hg => rfl); (case hr => first | (go_simp; done) | (go_simp; rfl)); intro gb114 hg w38 hbox hb; replace HO_3 := am (Kd.R_below (by (with_reducible repeat (first | apply Ra | apply Rn | apply Rd)); exact HO_3.out) hb); have BK114 := am (hbox); have GW114 := am ((by rw [hg]; exact (below_size (by repeat (first | (with_reducible first | exact HB.out | apply lA | apply lN | apply lD | refine lS ?_ GE101.out | refine lS ?_ GE109.out) | exact HB.out))) : w.heap.size ≤ gb114)); have GE114 := am ((by rw [hg]; exact (below_size (by repeat (first | (with_reducible first | exact HB.out | apply lA | apply lN | apply lD | refine lS ?_ GE101.out | refine lS ?_ GE109.out) | exact HB.out))) : w.heap.size ≤ gb114)); replace HB := am (below_step (by repeat (first | (with_reducible first | exact HB.out | apply lA | apply lN | apply lD | refine lS ?_ GE101.out | refine lS ?_ GE109.out) | exact HB.out)) hb); have NB101_114 := am ((by rw [hg]; exact Nat.ne_of_lt (blk_lt (g := gb101) (o := .cells #[.slice A0_0 l0_0.length c0_0, .slice (some ad108) l0_1.length c0_1] 50 (0, 0)) (by (with_reducible repeat (first | refine bN ?_ _ | refine bD ?_ | refine bA ?_ _)); exact BK101.out)) : gb101 ≠ gb114)); have NB114_101 := am ((by rw [hg]; exact Nat.ne_of_gt (blk_lt (g := gb101) (o := .cells #[.slice A0_0 l0_0.length c0_0, .slice (some ad108) l0_1.length c0_1] 50 (0, 0)) (by (with_reducible repeat (first | refine bN ?_ _ | refine bD ?_ | refine bA ?_ _)); exact BK101.out)) : gb114 ≠ gb101)); replace BK101 := am (blk_below (g := gb101) (o := .cells #[.slice A0_0 l0_0.length c0_0, .slice (some ad108) l0_1.length c0_1] 50 (0, 0)) (by (with_reducible repeat (first | refine bN ?_ _ | refine bD ?_ | refine bA ?_ _)); exact BK101.out) hb); have NB109_114 := am ((by rw [hg]; exact Nat.ne_of_lt (blk_lt (g := gb109) (o := .cells #[.string ((rd_T64 l0_1 x4_1).head.pred), .slice A108_1 ((rd_T64 l0_1 x4_1).head.args).length c108_1, .slice (some ad113) ((rd_T64 l0_1 x4_1).body).length c108_2] 64 (0, 0)) (by (with_reducible repeat (first | refine bN ?_ _ | refine bD ?_ | refine bA ?_ _)); exact BK109.out)) : gb109 ≠ gb114)); have NB114_109 := am ((by rw [hg]; exact Nat.ne_of_gt (blk_lt (g := gb109) (o := .cells #[.string ((rd_T64 l0_1 x4_1).head.pred), .slice A108_1 ((rd_T64 l0_1 x4_1).head.args).length c108_1, .slice (some ad113) ((rd_T64 l0_1 x4_1).body).length c108_2] 64 (0, 0)) (by (with_reducible repeat (first | refine bN ?_ _ | refine bD ?_ | refine bA ?_ _)); exact BK109.out)) : gb114 ≠ gb109)); replace BK109 := am (blk_below (g := gb109) (o := .cells #[.string ((rd_T64 l0_1 x4_1).head.pred), .slice A108_1 ((rd_T64 l0_1 x4_1).head.args).length c108_1, .slice (some ad113) ((rd_T64 l0_1 x4_1).body).length c108_2] 64 (0, 0)) (by (with_reducible repeat (first | refine bN ?_ _ | refine bD ?_ | refine bA ?_ _)); exact BK109.out) hb); clear hb hbox hg; have hnb39 := NB114_101.out; have hnc39 := NB101_114.out; have hnb40 := NB114_109.out; have hnc40 := NB109_114.out; have hcz41_0 : w38.cell? ⟨gb114, 0, none⟩ = some (.int .i64 0) := (blk_cell BK114.out 0).trans rfl; have hcz41_1 : w38.cell? ⟨gb114, 1, none⟩ = some (.string (⟨#[]⟩ : ByteArray)) := (blk_cell BK114.out 1).trans rfl; have hcz41_2 : w38.cell? ⟨gb114, 2, none⟩ = some (.slice none 0 0) := (blk_cell BK114.out 2).trans rfl; have hcz41_3 : w38.cell? ⟨gb114, 3, none⟩ = some (.string (⟨#[]⟩ : ByteArray)) := (blk_cell BK114.out 3).trans rfl; have hcz41_4 : w38.cell? ⟨gb114, 4, none⟩ = some (.bool false) := (blk_cell BK114.out 4).trans rfl; have hcz41_5 : w38.cell? ⟨gb114, 5, none⟩ = some (.string (⟨#[]⟩ : ByteArray)) := (blk_cell BK114.out 5).trans rfl; have hcz41_6 : w38.cell? ⟨gb114, 6, none⟩ = some (.bool false) := (blk_cell BK114.out 6).trans rfl; have hcz41_7 : w38.cell? ⟨gb114, 7, none⟩ = some (.string (⟨#[]⟩ : ByteArray)) := (blk_cell BK114.out 7).trans rfl; have hcz41_8 : w38.cell? ⟨gb114, 8, none⟩ = some (.int .i64 0) := (blk_cell BK114.out 8).trans rfl; have hcz41_9 : w38.cell? ⟨gb114, 9, none⟩ = some (.bool false) := (blk_cell BK114.out 9).trans rfl; have hcz41_10 : w38.cell? ⟨gb114, 10, none⟩ = some (.string (⟨#[]⟩ : ByteArray)) := (blk_cell BK114.out 10).trans rfl; have hcz41_11 : w38.cell? ⟨gb114, 11, none⟩ = some (.bool false) := (blk_cell BK114.out 11).trans rfl; have hcz41_12 : w38.cell? ⟨gb114, 12, none⟩ = some (.string (⟨#[]⟩ : ByteArray)) := (blk_cell BK114.out 12).trans rfl; have hcz41_13 : w38.cell? ⟨gb114, 13, none⟩ = some (.int .i64 0) := (blk_cell BK114.out 13).trans rfl; have hfz41_0 := blk_frozen BK114.out 0; have hfz41_1 := blk_frozen BK114.out 1; have hfz41_2 := blk_frozen BK114.out 2; have hfz41_3 := blk_frozen BK114.out 3; have hfz41_4 := blk_frozen BK114.out 4; have hfz41_5 := blk_frozen BK114.out 5; have hfz41_6 := blk_frozen BK114.out 6; have hfz41_7 := blk_frozen BK114.out 7; have hfz41_8 := blk_frozen BK114.out 8; have hfz41_9 := blk_frozen BK114.out 9; have hfz41_10 := blk_frozen BK114.out 10; have hfz41_11 := blk_frozen BK114.out 11; have hfz41_12 := blk_frozen BK114.out 12; have hfz41_13 := blk_frozen BK114.out 13))
             go_roundg k2
             case measure => have := HK1.out; have := HK2.out; omega
             case rel => exact ⟨(x3_2), (wrap64 (x6_2 + 1)), (by first | rfl | (simp; done) | (simp [*]; done)), H', ⟨by have := HK1.out; have := HK2.out; omega⟩, ⟨by (with_reducible repeat (first | apply Ra | apply Rn | apply Rd)); exact Kd.R_mono (Kd.R_far (p := ⟨gb114, 13, none⟩) (Kd.R_far (p := ⟨gb114, 12, none⟩) (Kd.R_far (p := ⟨gb114, 11, none⟩) (Kd.R_far (p := ⟨gb114, 10, none⟩) (Kd.R_far (p := ⟨gb114, 9, none⟩) (Kd.R_far (p := ⟨gb114, 8, none⟩) (Kd.R_far (p := ⟨gb114, 7, none⟩) (Kd.R_far (p := ⟨gb114, 6, none⟩) (Kd.R_far (p := ⟨gb114, 5, none⟩) (Kd.R_far (p := ⟨gb114, 4, none⟩) (Kd.R_far (p := ⟨gb114, 3, none⟩) (Kd.R_far (p := ⟨gb114, 2, none⟩) (Kd.R_far (p := ⟨gb114, 1, none⟩) (Kd.R_far (p := ⟨gb114, 0, none⟩) (Kd.R_types HO_3.out BK114.out (by decide)) (fun _ hk => hk.2) _) (fun _ hk => hk.2) _) (fun _ hk => hk.2) _) (fun _ hk => hk.2) _) (fun _ hk => hk.2) _) (fun _ hk => hk.2) _) (fun _ hk => hk.2) _) (fun _ hk => hk.2) _) (fun _ hk => hk.2) _) (fun _ hk => hk.2) _) (fun _ hk => hk.2) _) (fun _ hk => hk.2) _) (fun _ hk => hk.2) _) (fun _ hk => hk.2) _) (fun _ hk => trivial)⟩, ⟨by repeat (first | (with_reducible first | exact BK101.out | refine bN ?_ _ | refine bD ?_ | refine bA ?_ _) | refine blk_far ?_ NB101_114.out _ | exact BK101.out)⟩, ⟨by repeat (first | (with_reducible first | exact BK109.out | refine bN ?_ _ | refine bD ?_ | refine bA ?_ _) | refine blk_far ?_ NB109_114.out _ | exact BK109.out)⟩, ⟨by repeat (first | (with_reducible first | exact HB.out | apply lA | apply lN | apply lD | refine lS ?_ GE101.out | refine lS ?_ GE109.out | refine lS ?_ GE114.out) | exact HB.out)⟩⟩
          ·rw [if_neg c17] at H
           exact absurd H (by simp)
         ·rw [if_neg c16] at H
          have c16b0 : decide (x6_2 < (((rd_T64 l0_1 x4_1).body).length : Int)) = false := decide_eq_false c16
          clear c16
          have H' := am H
          clear H
          have hnb42 := NB109_101.out
          have hnc42 := NB101_109.out
          have hcz43_0 : wr.cell? ⟨gb109, 0, none⟩ = some (.string ((rd_T64 l0_1 x4_1).head.pred)) := (blk_cell BK109.out 0).trans rfl
          have hcz43_1 : wr.cell? ⟨gb109, 1, none⟩ = some (.slice A108_1 ((rd_T64 l0_1 x4_1).head.args).length c108_1) := (blk_cell BK109.out 1).trans rfl
          have hcz43_2 : wr.cell? ⟨gb109, 2, none⟩ = some (.slice A108_2 ((rd_T64 l0_1 x4_1).body).length c108_2) := (blk_cell BK109.out 2).trans rfl
          have hfz43_0 := blk_frozen BK109.out 0
          have hfz43_1 := blk_frozen BK109.out 1
          have hfz43_2 := blk_frozen BK109.out 2
          go_wp2
          go_roundg k2
          case measure => have := HK1.out; have := HK2.out; omega
          case rel => exact ⟨(x3_2), (wrap64 (x4_1 + 1)), (by first | rfl | (simp; done) | (simp [*]; done)), H', ⟨by have := HK1.out; have := HK2.out; omega⟩, ⟨by (with_reducible repeat (first | apply Ra | apply Rn | apply Rd)); exact HO_3.out⟩, ⟨by (with_reducible repeat (first | refine bN ?_ _ | refine bD ?_ | refine bA ?_ _)); exact BK101.out⟩, ⟨by repeat (first | (with_reducible first | exact HB.out | apply lA | apply lN | apply lD | refine lS ?_ GE101.out | refine lS ?_ GE109.out) | exact HB.out)⟩⟩
      ·rw [if_neg c10] at H
       exact absurd H (by simp)
     ·rw [if_neg c9] at H
      exact absurd H (by simp)
    ·rw [if_neg c8] at H
     have c8b0 : decide (x4_1 < (l0_1.length : Int)) = false := decide_eq_false c8
     clear c8
     obtain rfl := Option.some.inj H
     have hcz44_0 : wr.cell? ⟨gb101, 0, none⟩ = some (.slice A0_0 l0_0.length c0_0) := (blk_cell BK101.out 0).trans rfl
     have hcz44_1 : wr.cell? ⟨gb101, 1, none⟩ = some (.slice A0_1 l0_1.length c0_1) := (blk_cell BK101.out 1).trans rfl
     have hfz44_0 := blk_frozen BK101.out 0
     have hfz44_1 := blk_frozen BK101.out 1
     go_wp2
     go_ret
     exact ⟨_, by first | rfl | (simp [errW_none, errW_some] <;> rfl) | (simp [*, errW_none, errW_some] <;> rfl), by (with_reducible repeat (first | apply Ra | apply Rn | apply Rd)); exact HO_3.out, by repeat (first | (with_reducible first | exact HB.out | apply lA | apply lN | apply lD | refine lS ?_ GE101.out) | exact HB.out)⟩
 ·rw [if_neg c2] at H
  exact absurd H (by simp)
def lambrequinlaw11_few.f (k : Nat) (l0_0 : List (Decl)) (l0_1 : List (Rule)) : Option (Bool) := (lambrequinref08_Uses.f k l0_0 l0_1).bind fun t102 => (some (decide ((t102.length : Int) ≤ 60)))
theorem lambrequinlaw11_few.mono : ∀ a0 a1 k, LeO (lambrequinlaw11_few.f k a0 a1) (lambrequinlaw11_few.f (k + 1) a0 a1) := by
 intro a0 a1 k
 unfold lambrequinlaw11_few.f
 repeat' first
   | (with_reducible exact lambrequinref08_Uses.mono _ _ _)
   | (with_reducible exact LeO.refl _)
   | (with_reducible exact LeO.none _)
   | (with_reducible refine LeO.ite ?_ ?_)
   | (with_reducible refine LeO.bind ?_ (fun _ => ?_))
   | exact lambrequinref08_Uses.mono _ _ _
   | exact LeO.none _
   | refine LeO.ite ?_ ?_
   | refine LeO.bind ?_ (fun _ => ?_)
set_option maxHeartbeats 8000000 in
set_option maxRecDepth 100000 in
theorem lambrequinlaw11_few.calls (k : Nat) (A0_0 : Option Addr) (c0_0 : Nat) (l0_0 : List (Decl)) (A0_1 : Option Addr) (c0_1 : Nat) (l0_1 : List (Rule)) (r : Bool) (w : World) (hr0_0 : Kd.C k96 w A0_0 l0_0.length l0_0) (hc0_0 : l0_0.length ≤ c0_0) (hr0_1 : Kd.C k64 w A0_1 l0_1.length l0_1) (hc0_1 : l0_1.length ≤ c0_1) (h : lambrequinlaw11_few.f k l0_0 l0_1 = some r) :
  Calls Try.prog 28 #[.agg #[.slice A0_0 l0_0.length c0_0, .slice A0_1 l0_1.length c0_1]] w fun e w' => e = .returned (.bool r) ∧ Below w.heap.size w w' := by
 have hu50 := Try.underlying50
 have HR0_0 := Aside0.mk hr0_0
 have HC0_0 := Aside0.mk hc0_0
 clear hr0_0 hc0_0
 have HR0_1 := Aside0.mk hr0_1
 have HC0_1 := Aside0.mk hc0_1
 clear hr0_1 hc0_1
 have HB := Aside0.mk (Below.refl w.heap.size w)
 have H : ((lambrequinref08_Uses.f k l0_0 l0_1).bind fun t102 => (some (decide ((t102.length : Int) ≤ 60)))) = some r := h
 clear h
 replace H := Option.bind_eq_some_iff.mp H
 obtain ⟨t102, A20, H⟩ := H
 replace H : (some (decide ((t102.length : Int) ≤ 60))) = some r := H
 have A2 := Aside0.mk A20
 clear A20
 obtain rfl := Option.some.inj H
 go_enter Try.func28, Try.ntmps28
 go_wp2_with (first | ((with_reducible refine gate_dst (N := 1) rfl ?_); refine box_event ?hg (N := 1) ?hd (cs := #[.slice A0_0 l0_0.length c0_0, .slice A0_1 l0_1.length c0_1]) (t := 50) ?hr ?_; (case hd => rfl); (case hg => rfl); (case hr => first | (go_simp; done) | (go_simp; rfl)); intro gb101 hg w3 hbox hb; have n0_ := Aside0.mk (below_step (by repeat (first | (with_reducible first | exact HB.out | apply below_alloc | apply pw_below_drewN | apply below_drew1) | exact HB.out)) hb); have n1_ := Aside0.mk (hbox); have n2_ := Aside0.mk ((by rw [hg]; exact (below_size (by repeat (first | (with_reducible first | exact HB.out | apply below_alloc | apply pw_below_drewN | apply below_drew1) | exact HB.out))) : w.heap.size ≤ gb101)); have n3_ := Aside0.mk ((by rw [hg]; exact (below_size (by repeat (first | (with_reducible first | exact HB.out | apply below_alloc | apply pw_below_drewN | apply below_drew1) | exact HB.out))) : w.heap.size ≤ gb101)); clear HB; have HB := n0_; have BK101 := n1_; have GW101 := n2_; have GE101 := n3_; clear n0_ n1_ n2_ n3_; clear hb hbox hg; have hcz4_0 : w3.cell? ⟨gb101, 0, none⟩ = some (.slice A0_0 l0_0.length c0_0) := (blk_cell BK101.out 0).trans rfl; have hcz4_1 : w3.cell? ⟨gb101, 1, none⟩ = some (.slice A0_1 l0_1.length c0_1) := (blk_cell BK101.out 1).trans rfl; have hfz4_0 := blk_frozen BK101.out 0; have hfz4_1 := blk_frozen BK101.out 1) | ((with_reducible refine gate_callee (f := 51) rfl ?_); refine goesL_ (some 4) rfl rfl Try.func51 (by kernel_rfl) rfl #[.agg #[.slice A0_0 l0_0.length c0_0, .slice A0_1 l0_1.length c0_1]] rfl (by (try simp only [List.map_toArray, List.map_cons, List.map_nil]); first | done | rfl | (simp only [List.length_drop, List.length_take]; rfl)) ?_; (with_reducible refine (lambrequinref08_Uses.calls k _ _ l0_0 _ _ l0_1 t102 _ ?side1 ?side2 ?side3 ?side4 A2.out).mono ?_); (case side1 => repeat (first | exact (Kd.C_below HR0_0.out HB.out) | (with_reducible refine Kd.C_alloc ?_ _) | (with_reducible refine Kd.C_drewN ?_ _) | (with_reducible refine Kd.C_drew ?_))); (case side2 => exact HC0_0.out); (case side3 => repeat (first | exact (Kd.C_below HR0_1.out HB.out) | (with_reducible refine Kd.C_alloc ?_ _) | (with_reducible refine Kd.C_drewN ?_ _) | (with_reducible refine Kd.C_drew ?_))); (case side4 => exact HC0_1.out); rintro e w5 ⟨v103, rfl, ho0, hb⟩; refine ⟨_, rfl, ?_⟩; have n0_ := Aside0.mk (Kd.R_lower ho0 (below_size (by repeat (first | (with_reducible first | exact HB.out | apply below_alloc | apply pw_below_drewN | apply below_drew1 | refine below_set ?_ GE101.out) | exact HB.out)))); have n1_ := Aside0.mk (blk_below (g := gb101) (o := .cells #[.slice A0_0 l0_0.length c0_0, .slice A0_1 l0_1.length c0_1] 50 (0, 0)) (by (with_reducible repeat (first | refine blk_drewN ?_ _ | refine blk_drew ?_ | refine blk_alloc ?_ _)); exact BK101.out) hb); have n2_ := Aside0.mk (below_step (by repeat (first | (with_reducible first | exact HB.out | apply below_alloc | apply pw_below_drewN | apply below_drew1 | refine below_set ?_ GE101.out) | exact HB.out)) hb); clear BK101; clear HB; have HO104 := n0_; have BK101 := n1_; have HB := n2_; clear n0_ n1_ n2_; (try clear hb); (try clear hb2); (try clear hk); (try clear hi); (try clear ho0); obtain ⟨Ao6, co6, eo6⟩ := Kd.R_slice HO104.out; subst eo6))
 go_ret
 exact ⟨by first | rfl | (simp [errW_none, errW_some] <;> rfl) | (simp [*, errW_none, errW_some] <;> rfl), by repeat (first | (with_reducible first | exact HB.out | apply below_alloc | apply pw_below_drewN | apply below_drew1 | refine below_set ?_ GE101.out) | exact HB.out)⟩
end Go.Proofs.Ytmlhnjonmjmhdaa.H
/- strata: names, uses, edges -/
namespace Go.Proofs.Ytmlhnjonmjmhdaa.H
open Go.RowKit Go.Proofs.YtmlhnjonmjmhdaaW.PrintWords
/-- a literal that uses a predicate -/
def useB (b : Liter) : Bool := decide (b.kind = 1) || decide (b.kind = 2)
def litN (b : Liter) : ByteArray := b.atom.pred
def ruleN (r : Rule) : List ByteArray := r.head.pred :: (r.body.filter useB).map litN
def declN (d : Decl) : ByteArray := d.pred
def usesN (ds : List Decl) (rs : List Rule) : List ByteArray := ds.map declN ++ rs.flatMap ruleN
theorem fm_len {α β : Type} (f : α → List β) (l : List α) {y : α} (d : List α) {i : Nat} (h : l.drop i = y :: d) : (f y).length + (d.flatMap f).length = ((y :: d).flatMap f).length := by
  rw [List.flatMap_cons, List.length_append]
theorem preds_l2 {rs : List Rule} {x25 x26 : Int} {R : List ByteArray} {bs : List Liter} (hbs : bs.length ≤ 1000000) : ∀ (d : List Liter) (i : Nat) (acc : List ByteArray), bs.drop i = d → acc.length + (d.filter useB).length ≤ 1000000 →
    Ev (fun k => strata_Preds.l1 k (acc ++ (d.filter useB).map litN) rs x25 (wrap64 (x26 + 1))) R → Ev (fun k => strata_Preds.l2 k acc rs x25 x26 bs (bs.length : Int) (i : Int)) R
  | [], i, acc, hd, hl, h => by
    refine Ev.step (fun k => by rw [strata_Preds.l2]) ?_
    refine Ev.neg (drop_end hd) ?_
    simpa using h
  | y :: d, i, acc, hd, hl, h => by
    obtain ⟨h1, h2, h3, h4, h5⟩ := drop_more hd (by omega)
    have e : rd_T71 bs (i : Int) = y := h3 _
    refine Ev.step (fun k => by rw [strata_Preds.l2]) ?_
    rw [e, h5]
    clear h5
    refine Ev.pos h1 (Ev.pos h2 (Ev.pos h1 ?_))
    by_cases c1 : y.kind = 1
    · have hu : useB y = true := by unfold useB; simp [c1]
      rw [List.filter_cons_of_pos hu] at h hl
      rw [List.length_cons] at hl
      rw [List.map_cons, List.append_cons] at h
      refine Ev.pos c1 (Ev.pos (by omega) (preds_l2 hbs d (i + 1) _ h4 (by rw [List.length_append, List.length_singleton]; omega) h))
    · refine Ev.neg c1 ?_
      by_cases c2 : y.kind = 2
      · have hu : useB y = true := by unfold useB; simp [c2]
        rw [List.filter_cons_of_pos hu] at h hl
        rw [List.length_cons] at hl
        rw [List.map_cons, List.append_cons] at h
        refine Ev.pos c2 (Ev.pos (by omega) (preds_l2 hbs d (i + 1) _ h4 (by rw [List.length_append, List.length_singleton]; omega) h))
      · have hu : ¬ useB y = true := by unfold useB; simp [c1, c2]
        rw [List.filter_cons_of_neg hu] at h hl
        exact Ev.neg c2 (preds_l2 hbs d (i + 1) acc h4 hl h)
theorem ruleN_len (r : Rule) : (ruleN r).length = (r.body.filter useB).length + 1 := by
  unfold ruleN
  rw [List.length_cons, List.length_map]
theorem preds_l1 {rs : List Rule} (hrs : rs.length ≤ 1000000) (hb : ∀ r ∈ rs, r.body.length ≤ 1000000) : ∀ (d : List Rule) (i : Nat) (acc : List ByteArray), rs.drop i = d → acc.length + (d.flatMap ruleN).length ≤ 1000000 →
    Ev (fun k => strata_Preds.l1 k acc rs (rs.length : Int) (i : Int)) (setS (acc ++ d.flatMap ruleN))
  | [], i, acc, hd, hl => by
    refine Ev.step (fun k => by rw [strata_Preds.l1]) ?_
    refine Ev.neg (drop_end hd) ?_
    refine Ev.pure (a := sortS acc) ?_ (Ev.pure (a := compactS (sortS acc)) rfl (Ev.some ?_))
    · unfold slices_Sort_string_string.f
      rw [if_pos (by omega)]
    · simp [setS]
  | y :: d, i, acc, hd, hl => by
    obtain ⟨h1, h2, h3, h4, h5⟩ := drop_more hd (by omega)
    have e : rd_T64 rs (i : Int) = y := h3 _
    have hyb := hb y (List.mem_of_mem_drop (by rw [hd]; exact List.mem_cons_self))
    rw [List.flatMap_cons, List.length_append, ruleN_len] at hl
    refine Ev.step (fun k => by rw [strata_Preds.l1]) ?_
    rw [e]
    refine Ev.pos h1 (Ev.pos h2 (Ev.pos h1 (Ev.pos (by omega) ?_)))
    refine preds_l2 hyb y.body 0 _ rfl (by rw [List.length_append, List.length_singleton]; omega) ?_
    rw [h5]
    have next := preds_l1 hrs hb d (i + 1) (acc ++ [y.head.pred] ++ (y.body.filter useB).map litN) h4 (by rw [List.length_append, List.length_append, List.length_singleton, List.length_map]; omega)
    have e2 : acc ++ [y.head.pred] ++ (y.body.filter useB).map litN ++ d.flatMap ruleN = acc ++ (y :: d).flatMap ruleN := by
      rw [List.flatMap_cons]
      simp [ruleN]
    rw [e2] at next
    exact next
theorem preds_l0 {ds : List Decl} {rs : List Rule} (hds : ds.length ≤ 1000000) (hrs : rs.length ≤ 1000000) (hb : ∀ r ∈ rs, r.body.length ≤ 1000000) : ∀ (d : List Decl) (i : Nat) (acc : List ByteArray), ds.drop i = d → acc.length + d.length + (rs.flatMap ruleN).length ≤ 1000000 →
    Ev (fun k => strata_Preds.l0 k acc ds (ds.length : Int) (i : Int) ds rs) (setS (acc ++ d.map declN ++ rs.flatMap ruleN))
  | [], i, acc, hd, hl => by
    refine Ev.step (fun k => by rw [strata_Preds.l0]) ?_
    refine Ev.neg (drop_end hd) ?_
    have := preds_l1 hrs hb rs 0 acc rfl (by simpa using hl)
    simpa using this
  | y :: d, i, acc, hd, hl => by
    obtain ⟨h1, h2, h3, h4, h5⟩ := drop_more hd (by omega)
    have e : rd_T96 ds (i : Int) = y := h3 _
    have next := preds_l0 hds hrs hb d (i + 1) (acc ++ [y.pred]) h4 (by rw [List.length_append, List.length_singleton]; rw [List.length_cons] at hl; omega)
    refine Ev.step (fun k => by rw [strata_Preds.l0]) ?_
    rw [e, h5]
    clear h5
    rw [List.length_cons] at hl
    refine Ev.pos h1 (Ev.pos h2 (Ev.pos h1 (Ev.pos (by omega) ?_)))
    have e2 : acc ++ [y.pred] ++ d.map declN = acc ++ (y :: d).map declN := by simp [declN]
    rw [e2] at next
    exact next
theorem Preds_ev {ds : List Decl} {rs : List Rule} (hb : ∀ r ∈ rs, r.body.length ≤ 1000000) (hu : (usesN ds rs).length ≤ 100000) : Ev (fun k => strata_Preds.f k ds rs) (setS (usesN ds rs)) := by
  have hrl : rs.length ≤ (rs.flatMap ruleN).length := by
    clear hu hb
    induction rs with
    | nil => simp
    | cons r rs ih => rw [List.flatMap_cons, List.length_append, ruleN_len, List.length_cons]; omega
  unfold usesN at hu
  rw [List.length_append, List.length_map] at hu
  unfold strata_Preds.f
  have := preds_l0 (ds := ds) (rs := rs) (by omega) (by omega) hb ds 0 [] rfl (by simp only [List.length_nil]; omega)
  simpa [usesN] using this
def ruleD (r : Rule) : List Decl := ⟨r.head.pred, (r.head.args.length : Int)⟩ :: (r.body.filter useB).map fun b => ⟨b.atom.pred, (b.atom.args.length : Int)⟩
theorem uses_l1 {ds : List Decl} {rs : List Rule} {x4 : Int} {p : ByteArray} {ts : List Term} {bs : List Liter} (hbs : bs.length ≤ 9223372036854775807) : ∀ (d : List Liter) (i : Nat) (acc : List Decl), bs.drop i = d →
    (∀ R, Ev (fun k => lambrequinref08_Uses.l0 k (acc ++ (d.filter useB).map fun b => ⟨b.atom.pred, (b.atom.args.length : Int)⟩) (wrap64 (x4 + 1)) ds rs) R → acc.length + (d.filter useB).length < 5864062014805 → Ev (fun k => lambrequinref08_Uses.l1 k acc x4 (i : Int) ds rs p ts bs) R)
  | [], i, acc, hd, R, h, hl => by
    refine Ev.step (fun k => by rw [lambrequinref08_Uses.l1]) ?_
    refine Ev.neg (drop_end hd) ?_
    simpa using h
  | y :: d, i, acc, hd, R, h, hl => by
    obtain ⟨h1, h2, h3, h4, h5⟩ := drop_more hd hbs
    have e : rd_T71 bs (i : Int) = y := h3 _
    refine Ev.step (fun k => by rw [lambrequinref08_Uses.l1]) ?_
    rw [e, h5]
    clear h5
    refine Ev.pos h1 (Ev.pos h2 ?_)
    by_cases c1 : y.kind = 1
    · have hu : useB y = true := by unfold useB; simp [c1]
      rw [List.filter_cons_of_pos hu] at h hl
      rw [List.length_cons] at hl
      rw [List.map_cons, List.append_cons] at h
      exact Ev.pos c1 (Ev.pos (by omega) (uses_l1 hbs d (i + 1) _ h4 R h (by rw [List.length_append, List.length_singleton]; omega)))
    · refine Ev.neg c1 ?_
      by_cases c2 : y.kind = 2
      · have hu : useB y = true := by unfold useB; simp [c2]
        rw [List.filter_cons_of_pos hu] at h hl
        rw [List.length_cons] at hl
        rw [List.map_cons, List.append_cons] at h
        exact Ev.pos c2 (Ev.pos (by omega) (uses_l1 hbs d (i + 1) _ h4 R h (by rw [List.length_append, List.length_singleton]; omega)))
      · have hu : ¬ useB y = true := by unfold useB; simp [c1, c2]
        rw [List.filter_cons_of_neg hu] at h hl
        exact Ev.neg c2 (uses_l1 hbs d (i + 1) acc h4 R h hl)
theorem ruleD_len (r : Rule) : (ruleD r).length = (ruleN r).length := by simp [ruleD, ruleN]
theorem uses_l0 {ds : List Decl} {rs : List Rule} (hrs : rs.length ≤ 9223372036854775807) (hb : ∀ r ∈ rs, r.body.length ≤ 9223372036854775807) : ∀ (d : List Rule) (i : Nat) (acc : List Decl), rs.drop i = d → acc.length + (d.flatMap ruleD).length < 5864062014805 →
    Ev (fun k => lambrequinref08_Uses.l0 k acc (i : Int) ds rs) (acc ++ d.flatMap ruleD)
  | [], i, acc, hd, hl => by
    refine Ev.step (fun k => by rw [lambrequinref08_Uses.l0]) ?_
    exact Ev.neg (drop_end hd) (Ev.some (by simp))
  | y :: d, i, acc, hd, hl => by
    obtain ⟨h1, h2, h3, h4, h5⟩ := drop_more hd hrs
    have e : rd_T64 rs (i : Int) = y := h3 _
    have hyb := hb y (List.mem_of_mem_drop (by rw [hd]; exact List.mem_cons_self))
    rw [List.flatMap_cons, List.length_append, ruleD_len, ruleN_len] at hl
    refine Ev.step (fun k => by rw [lambrequinref08_Uses.l0]) ?_
    rw [e]
    refine Ev.pos h1 (Ev.pos h2 (Ev.pos (by omega) ?_))
    refine uses_l1 hyb y.body 0 _ rfl _ ?_ (by rw [List.length_append, List.length_singleton]; omega)
    rw [h5]
    have next := uses_l0 (ds := ds) hrs hb d (i + 1) (acc ++ [⟨y.head.pred, (y.head.args.length : Int)⟩] ++ (y.body.filter useB).map fun b => ⟨b.atom.pred, (b.atom.args.length : Int)⟩) h4 (by rw [List.length_append, List.length_append, List.length_singleton, List.length_map]; omega)
    have e2 : acc ++ [⟨y.head.pred, (y.head.args.length : Int)⟩] ++ ((y.body.filter useB).map fun b => (⟨b.atom.pred, (b.atom.args.length : Int)⟩ : Decl)) ++ d.flatMap ruleD = acc ++ (y :: d).flatMap ruleD := by
      rw [List.flatMap_cons]
      simp [ruleD]
    rw [e2] at next
    exact next
theorem fmD_len (rs : List Rule) : (rs.flatMap ruleD).length = (rs.flatMap ruleN).length := by
  induction rs with
  | nil => rfl
  | cons r rs ih => rw [List.flatMap_cons, List.flatMap_cons, List.length_append, List.length_append, ruleD_len, ih]
theorem few_ev {ds : List Decl} {rs : List Rule} (hrs : rs.length ≤ 9223372036854775807) (hb : ∀ r ∈ rs, r.body.length ≤ 9223372036854775807) (hu : (usesN ds rs).length < 5864062014805) : Ev (fun k => lambrequinlaw11_few.f k ds rs) (decide ((usesN ds rs).length ≤ 60)) := by
  unfold usesN at hu
  rw [List.length_append, List.length_map] at hu
  have h := uses_l0 (ds := ds) hrs hb rs 0 ([] ++ ds) rfl (by rw [List.nil_append, fmD_len]; exact hu)
  unfold lambrequinlaw11_few.f lambrequinref08_Uses.f
  refine Ev.bind (a := [] ++ ds ++ rs.flatMap ruleD) (Ev.pure rfl (Ev.pos (by simp only [List.length_nil]; omega) h)) (Ev.some ?_)
  rw [Bool.eq_iff_iff, decide_eq_true_iff, decide_eq_true_iff]
  unfold usesN
  rw [List.nil_append, List.length_append, List.length_append, List.length_map, fmD_len]
  omega
end Go.Proofs.Ytmlhnjonmjmhdaa.H
/- strata: the edges between predicates, the ring -/
namespace Go.Proofs.Ytmlhnjonmjmhdaa.H
open Go.RowKit Go.Proofs.YtmlhnjonmjmhdaaW.PrintWords
def negB (b : Liter) : Bool := decide (b.kind = 2)
def edgeOf (p : List ByteArray) (r : Rule) (b : Liter) : IPair := ⟨idxS p r.head.pred, idxS p b.atom.pred⟩
def ruleE (p : List ByteArray) (r : Rule) : List IPair := (r.body.filter useB).map (edgeOf p r)
def ruleG (p : List ByteArray) (r : Rule) : List IPair := (r.body.filter negB).map (edgeOf p r)
def allE (p : List ByteArray) (rs : List Rule) : List IPair := rs.flatMap (ruleE p)
def negE (p : List ByteArray) (rs : List Rule) : List IPair := rs.flatMap (ruleG p)
theorem EdgesAt_eq {p : List ByteArray} (hp : p.length ≤ 1000000) (s : ByteArray) : EdgesAt.f s p = some (idxS p s) := by unfold EdgesAt.f; rw [if_pos hp]
theorem edges_l1 {p : List ByteArray} (hp : p.length ≤ 1000000) {rs : List Rule} {x17 x18 : Int} {r : Rule} {R : List IPair × List IPair} (hbs : r.body.length ≤ 1000000) : ∀ (d : List Liter) (i : Nat) (all neg : List IPair), r.body.drop i = d → all.length + d.length ≤ 10000000 → neg.length + d.length ≤ 10000000 →
    Ev (fun k => strata_edges.l0 k (all ++ (d.filter useB).map (edgeOf p r)) (neg ++ (d.filter negB).map (edgeOf p r)) rs x17 (wrap64 (x18 + 1)) p) R → Ev (fun k => strata_edges.l1 k all neg rs x17 x18 r.body (r.body.length : Int) (i : Int) p r.head.pred r.head.args r.body) R
  | [], i, all, neg, hd, ha, hn, h => by
    refine Ev.step (fun k => by rw [strata_edges.l1]) ?_
    refine Ev.neg (drop_end hd) ?_
    simpa using h
  | y :: d, i, all, neg, hd, ha, hn, h => by
    obtain ⟨h1, h2, h3, h4, h5⟩ := drop_more hd (by omega)
    have e : rd_T71 r.body (i : Int) = y := h3 _
    rw [List.length_cons] at ha hn
    refine Ev.step (fun k => by rw [strata_edges.l1]) ?_
    rw [e]
    refine Ev.pos h1 (Ev.pos h2 (Ev.pos h1 ?_))
    have skip : useB y = false → Ev (fun k => strata_edges.l1 k all neg rs x17 x18 r.body (r.body.length : Int) (wrap64 ((i : Int) + 1)) p r.head.pred r.head.args r.body) R := by
      intro hu
      have hg : ¬ negB y = true := by unfold useB at hu; unfold negB; simp at hu ⊢; exact hu.2
      rw [List.filter_cons_of_neg (by rw [hu]; decide), List.filter_cons_of_neg hg] at h
      rw [h5]
      exact edges_l1 hp hbs d (i + 1) all neg h4 (by omega) (by omega) h
    have take : useB y = true → Ev (fun k => (EdgesAt.f r.head.pred p).bind fun t107 => ((EdgesAt.f y.atom.pred p).bind fun t108 => (if all.length < 8796093022208 then ((some (all ++ [(⟨t107, t108⟩ : IPair)] : List (IPair))).bind fun y110 => (if y.kind = 2 then (if neg.length < 8796093022208 then (strata_edges.l1 k y110 (neg ++ [(⟨t107, t108⟩ : IPair)]) rs x17 x18 r.body (r.body.length : Int) (wrap64 ((i : Int) + 1)) p r.head.pred r.head.args r.body) else (none)) else (strata_edges.l1 k y110 neg rs x17 x18 r.body (r.body.length : Int) (wrap64 ((i : Int) + 1)) p r.head.pred r.head.args r.body))) else (none)))) R := by
      intro hu
      rw [List.filter_cons_of_pos hu, List.map_cons, List.append_cons all (edgeOf p r y)] at h
      refine Ev.pure (EdgesAt_eq hp _) (Ev.pure (EdgesAt_eq hp _) (Ev.pos (by omega) (Ev.pure rfl ?_)))
      by_cases c : y.kind = 2
      · have hg : negB y = true := by unfold negB; simp [c]
        rw [List.filter_cons_of_pos hg, List.map_cons, List.append_cons neg (edgeOf p r y)] at h
        refine Ev.pos c (Ev.pos (by omega) ?_)
        rw [h5]
        exact edges_l1 hp hbs d (i + 1) _ _ h4 (by rw [List.length_append, List.length_singleton]; omega) (by rw [List.length_append, List.length_singleton]; omega) h
      · have hg : ¬ negB y = true := by unfold negB; simp [c]
        rw [List.filter_cons_of_neg hg] at h
        refine Ev.neg c ?_
        rw [h5]
        exact edges_l1 hp hbs d (i + 1) _ _ h4 (by rw [List.length_append, List.length_singleton]; omega) (by omega) h
    by_cases c1 : y.kind = 1
    · refine Ev.pos c1 ?_
      refine Ev.step (fun k => by rw [strata_edges.j2]) ?_
      exact Ev.neg (by decide) (take (by unfold useB; simp [c1]))
    · refine Ev.neg c1 ?_
      refine Ev.step (fun k => by rw [strata_edges.j2]) ?_
      by_cases c2 : y.kind = 2
      · exact Ev.neg (by simp [c2]) (take (by unfold useB; simp [c2]))
      · exact Ev.pos (by simp [c2]) (skip (by unfold useB; simp [c1, c2]))
theorem flt_le {f : Liter → Bool} (l : List Liter) : (l.filter f).length ≤ l.length := List.length_filter_le _ _
theorem edges_l0 {p : List ByteArray} (hp : p.length ≤ 1000000) {rs : List Rule} (hrs : rs.length ≤ 1000000) (hb : ∀ r ∈ rs, r.body.length ≤ 1000000) : ∀ (d : List Rule) (i : Nat) (all neg : List IPair), rs.drop i = d → (∀ j, all.length + ((d.take j).flatMap (ruleE p)).length ≤ 2000000) → (∀ j, neg.length + ((d.take j).flatMap (ruleG p)).length ≤ 2000000) →
    Ev (fun k => strata_edges.l0 k all neg rs (rs.length : Int) (i : Int) p) (all ++ d.flatMap (ruleE p), neg ++ d.flatMap (ruleG p))
  | [], i, all, neg, hd, ha, hn => by
    refine Ev.step (fun k => by rw [strata_edges.l0]) ?_
    exact Ev.neg (drop_end hd) (Ev.some (by simp))
  | y :: d, i, all, neg, hd, ha, hn => by
    obtain ⟨h1, h2, h3, h4, h5⟩ := drop_more hd (by omega)
    have e : rd_T64 rs (i : Int) = y := h3 _
    have hyb := hb y (List.mem_of_mem_drop (by rw [hd]; exact List.mem_cons_self))
    have ha0 := ha 0
    have hn0 := hn 0
    simp only [List.take_zero, List.flatMap_nil, List.length_nil] at ha0 hn0
    refine Ev.step (fun k => by rw [strata_edges.l0]) ?_
    rw [e]
    refine Ev.pos h1 (Ev.pos h2 (Ev.pos h1 ?_))
    refine edges_l1 hp hyb y.body 0 all neg rfl (by omega) (by omega) ?_
    rw [h5]
    have next := edges_l0 hp hrs hb d (i + 1) (all ++ ruleE p y) (neg ++ ruleG p y) h4 (fun j => by
      have := ha (j + 1)
      rw [List.take_succ_cons, List.flatMap_cons, List.length_append] at this
      rw [List.length_append]; omega) (fun j => by
      have := hn (j + 1)
      rw [List.take_succ_cons, List.flatMap_cons, List.length_append] at this
      rw [List.length_append]; omega)
    rw [List.append_assoc, List.append_assoc] at next
    rw [List.flatMap_cons, List.flatMap_cons]
    exact next
theorem fmE_le (p : List ByteArray) (f : List ByteArray → Rule → List IPair) (hf : ∀ r, (f p r).length ≤ (ruleN r).length) : ∀ (rs : List Rule) (j : Nat), ((rs.take j).flatMap (f p)).length ≤ (rs.flatMap ruleN).length
  | [], j => by simp
  | r :: rs, 0 => by simp
  | r :: rs, j + 1 => by
    rw [List.take_succ_cons, List.flatMap_cons, List.flatMap_cons, List.length_append, List.length_append]
    have h1 := hf r
    have h2 := fmE_le p f hf rs j
    omega
theorem ruleE_le (p : List ByteArray) (r : Rule) : (ruleE p r).length ≤ (ruleN r).length := by
  rw [ruleN_len]; unfold ruleE; rw [List.length_map]; omega
theorem ruleG_le (p : List ByteArray) (r : Rule) : (ruleG p r).length ≤ (ruleN r).length := by
  rw [ruleN_len]
  unfold ruleG
  rw [List.length_map]
  have : (r.body.filter negB).length ≤ (r.body.filter useB).length := by
    induction r.body with
    | nil => simp
    | cons y d ih =>
      by_cases h : negB y = true
      · have hu : useB y = true := by unfold negB at h; unfold useB; simp at h; simp [h]
        rw [List.filter_cons_of_pos h, List.filter_cons_of_pos hu, List.length_cons, List.length_cons]; omega
      · rw [List.filter_cons_of_neg h]
        by_cases hu : useB y = true
        · rw [List.filter_cons_of_pos hu, List.length_cons]; omega
        · rw [List.filter_cons_of_neg hu]; exact ih
  omega
theorem uses_parts {ds : List Decl} {rs : List Rule} : (usesN ds rs).length = ds.length + (rs.flatMap ruleN).length ∧ rs.length ≤ (rs.flatMap ruleN).length := by
  refine ⟨by unfold usesN; rw [List.length_append, List.length_map], ?_⟩
  induction rs with
  | nil => simp
  | cons r rs ih => rw [List.flatMap_cons, List.length_append, ruleN_len, List.length_cons]; omega
theorem Edges_ev {ds : List Decl} {rs : List Rule} {p : List ByteArray} (hp : p.length ≤ 1000000) (hb : ∀ r ∈ rs, r.body.length ≤ 1000000) (hu : (usesN ds rs).length ≤ 100000) : Ev (fun k => strata_edges.f k ds rs p) (allE p rs, negE p rs) := by
  obtain ⟨h1, h2⟩ := uses_parts (ds := ds) (rs := rs)
  unfold strata_edges.f
  have := edges_l0 hp (rs := rs) (by omega) hb rs 0 [] [] rfl (fun j => by have := fmE_le p ruleE (ruleE_le p) rs j; simp only [List.length_nil]; omega) (fun j => by have := fmE_le p ruleG (ruleG_le p) rs j; simp only [List.length_nil]; omega)
  exact this
theorem allE_len {ds : List Decl} {rs : List Rule} (p : List ByteArray) : (allE p rs).length ≤ (usesN ds rs).length ∧ (negE p rs).length ≤ (usesN ds rs).length := by
  obtain ⟨h1, _⟩ := uses_parts (ds := ds) (rs := rs)
  have h2 := fmE_le p ruleE (ruleE_le p) rs rs.length
  have h3 := fmE_le p ruleG (ruleG_le p) rs rs.length
  rw [List.take_length] at h2 h3
  unfold allE negE
  omega
theorem idx_in {p : List ByteArray} {s : ByteArray} (h : s ∈ p) : 0 ≤ idxS p s ∧ idxS p s < (p.length : Int) := by
  have hr := idxS_range p s
  refine ⟨?_, hr.2⟩
  have h0 : ∀ (l : List ByteArray) (i : Nat), s ∈ l → 0 ≤ idxP (fun y => decide (y = s)) l i := by
    intro l
    induction l with
    | nil => intro i h; cases h
    | cons y l ih =>
      intro i h
      unfold idxP
      split
      · omega
      · rename_i hy
        rcases List.mem_cons.1 h with rfl | h
        · exact absurd (decide_eq_true rfl) hy
        · exact ih _ h
  exact h0 p 0 h
theorem mem_uses_head {ds : List Decl} {rs : List Rule} {r : Rule} (hr : r ∈ rs) : r.head.pred ∈ setS (usesN ds rs) := by
  rw [mem_setS]
  unfold usesN
  exact List.mem_append_right _ (List.mem_flatMap.2 ⟨r, hr, List.mem_cons_self⟩)
theorem mem_uses_body {ds : List Decl} {rs : List Rule} {r : Rule} {b : Liter} (hr : r ∈ rs) (hb : b ∈ r.body) (hu : useB b = true) : b.atom.pred ∈ setS (usesN ds rs) := by
  rw [mem_setS]
  unfold usesN
  exact List.mem_append_right _ (List.mem_flatMap.2 ⟨r, hr, List.mem_cons_of_mem _ (List.mem_map.2 ⟨b, List.mem_filter.2 ⟨hb, hu⟩, rfl⟩)⟩)
theorem mem_allE {p : List ByteArray} {rs : List Rule} {e : IPair} : e ∈ allE p rs ↔ ∃ r ∈ rs, ∃ b ∈ r.body, useB b = true ∧ e = edgeOf p r b := by
  unfold allE ruleE
  rw [List.mem_flatMap]
  constructor
  · rintro ⟨r, hr, h⟩
    obtain ⟨b, hb, rfl⟩ := List.mem_map.1 h
    obtain ⟨h1, h2⟩ := List.mem_filter.1 hb
    exact ⟨r, hr, b, h1, h2, rfl⟩
  · rintro ⟨r, hr, b, h1, h2, rfl⟩
    exact ⟨r, hr, List.mem_map.2 ⟨b, List.mem_filter.2 ⟨h1, h2⟩, rfl⟩⟩
theorem mem_negE {p : List ByteArray} {rs : List Rule} {e : IPair} : e ∈ negE p rs ↔ ∃ r ∈ rs, ∃ b ∈ r.body, b.kind = 2 ∧ e = edgeOf p r b := by
  unfold negE ruleG
  rw [List.mem_flatMap]
  constructor
  · rintro ⟨r, hr, h⟩
    obtain ⟨b, hb, rfl⟩ := List.mem_map.1 h
    obtain ⟨h1, h2⟩ := List.mem_filter.1 hb
    exact ⟨r, hr, b, h1, by simpa [negB] using h2, rfl⟩
  · rintro ⟨r, hr, b, h1, h2, rfl⟩
    exact ⟨r, hr, List.mem_map.2 ⟨b, List.mem_filter.2 ⟨h1, by simpa [negB] using h2⟩, rfl⟩⟩
theorem allE_in (ds : List Decl) (rs : List Rule) : inE (setS (usesN ds rs)).length (allE (setS (usesN ds rs)) rs) := by
  intro e he
  obtain ⟨r, hr, b, hb, hu, rfl⟩ := mem_allE.1 he
  have h1 := idx_in (mem_uses_head (ds := ds) hr)
  have h2 := idx_in (mem_uses_body (ds := ds) hr hb hu)
  exact ⟨h1.1, h1.2, h2.1, h2.2⟩
theorem neg_all {p : List ByteArray} {rs : List Rule} {e : IPair} (h : e ∈ negE p rs) : e ∈ allE p rs := by
  obtain ⟨r, hr, b, hb, hk, rfl⟩ := mem_negE.1 h
  exact mem_allE.2 ⟨r, hr, b, hb, by unfold useB; simp [hk], rfl⟩
end Go.Proofs.Ytmlhnjonmjmhdaa.H
/- strata: no ring, and the levels -/
namespace Go.Proofs.Ytmlhnjonmjmhdaa.H
open Go.RowKit Go.Proofs.YtmlhnjonmjmhdaaW.PrintWords
theorem good_of {n : Nat} {l : List IPair} (hn : n ≤ 1000) (h : inE n l) : cleanBad (n : Int) l = false := by
  unfold cleanBad
  have : l.any (outP n) = false := by
    rw [List.any_eq_false]
    intro e he
    have := h e he
    unfold outP inW
    simp
    omega
  rw [this]
  simp
  omega
theorem ring_l0 {n : Nat} {all c : List IPair} (hn : n ≤ 1000) (hl : all.length ≤ 1000000) (ha : inE n all) (hc : inE n c) (hcl : c.length ≤ 1000000) : ∀ (d : List IPair) (i : Nat), c.drop i = d →
    ∃ r, Ev (fun k => strata_ring.l0 k (n : Int) all c (c.length : Int) (i : Int)) r ∧ (r = [] ∧ (∀ e ∈ d, ¬ Rch (rws n all) e.snd.toNat e.fst.toNat) ∨ (0 < r.length ∧ r.length ≤ 1000000 ∧ ∀ v ∈ r, 0 ≤ v ∧ v < (n : Int)) ∧ ∃ e ∈ d, Rch (rws n all) e.snd.toNat e.fst.toNat)
  | [], i, hd => by
    refine ⟨[], ?_, .inl ⟨rfl, fun e he => absurd he List.not_mem_nil⟩⟩
    refine Ev.step (fun k => by rw [strata_ring.l0]) ?_
    exact Ev.neg (drop_end hd) (Ev.now _)
  | y :: d, i, hd => by
    obtain ⟨h1, h2, h3, h4, h5⟩ := drop_more hd (by omega)
    have e : rd_T27 c (i : Int) = y := h3 _
    have hy := hc y (List.mem_of_mem_drop (by rw [hd]; exact List.mem_cons_self))
    have hb := good_of hn ha
    have e1 : ((y.snd.toNat : Nat) : Int) = y.snd := Int.toNat_of_nonneg hy.2.2.1
    have e2 : ((y.fst.toNat : Nat) : Int) = y.fst := Int.toNat_of_nonneg hy.1
    by_cases hr : Rch (rws n all) y.snd.toNat y.fst.toNat
    · obtain ⟨p, hp, hpi, _⟩ := (Path_is hl hb (a := y.snd.toNat) (b := y.fst.toNat) (by clear h5; omega) (by clear h5; omega)).1 hr
      rw [e1, e2] at hp
      have hpos := hpi.pos
      have hf := hpi.few
      rw [rws_len] at hf
      refine ⟨[y.fst] ++ p, ?_, .inr ⟨⟨by simp, by simp; clear h5; omega, ?_⟩, y, List.mem_cons_self, hr⟩⟩
      · refine Ev.step (fun k => by rw [strata_ring.l0]) ?_
        rw [e]
        clear h5
        exact Ev.pos h1 (Ev.pos h2 (Ev.pos h1 (Ev.bind hp (Ev.pos (by omega) (Ev.pure rfl (Ev.pos (by simp; omega) (Ev.now _)))))))
      · intro v hv
        rcases List.mem_append.1 hv with hv | hv
        · rw [List.mem_singleton.1 hv]; exact ⟨hy.1, hy.2.1⟩
        · have := hpi.bnd v hv
          rw [rws_len] at this
          exact this
    · have hp := (Path_is hl hb (a := y.snd.toNat) (b := y.fst.toNat) (by clear h5; omega) (by clear h5; omega)).2 hr
      rw [e1, e2] at hp
      obtain ⟨r, hr1, hr2⟩ := ring_l0 hn hl ha hc hcl d (i + 1) h4
      refine ⟨r, ?_, ?_⟩
      · refine Ev.step (fun k => by rw [strata_ring.l0]) ?_
        rw [e, h5]
        clear h5
        exact Ev.pos h1 (Ev.pos h2 (Ev.pos h1 (Ev.bind hp (Ev.neg (by simp) hr1))))
      · rcases hr2 with ⟨h6, h7⟩ | h6
        · refine .inl ⟨h6, fun e' he' => ?_⟩
          rcases List.mem_cons.1 he' with rfl | he'
          · exact hr
          · exact h7 e' he'
        · obtain ⟨h7, e', he', hr'⟩ := h6
          exact .inr ⟨h7, e', List.mem_cons_of_mem _ he', hr'⟩
theorem Ring_ev {n : Nat} {all neg : List IPair} (hn : n ≤ 1000) (hl : all.length ≤ 1000000) (hl' : neg.length ≤ 1000000) (ha : inE n all) (hg : inE n neg) :
    ∃ r, Ev (fun k => strata_ring.f k (n : Int) all neg) r ∧ (r = [] ∧ (∀ e ∈ neg, ¬ Rch (rws n all) e.snd.toNat e.fst.toNat) ∨ (0 < r.length ∧ r.length ≤ 1000000 ∧ ∀ v ∈ r, 0 ≤ v ∧ v < (n : Int)) ∧ ∃ e ∈ neg, Rch (rws n all) e.snd.toNat e.fst.toNat) := by
  have hb := good_of hn hg
  have hin : inE n (dd (sortL neg)) := inE_of hb
  have hlen : (dd (sortL neg)).length ≤ 1000000 := by
    have h1 := dd_len (sortL neg)
    have h2 := (sortL_perm neg).length_eq
    omega
  obtain ⟨r, h1, h2⟩ := ring_l0 hn hl ha hin hlen _ 0 rfl
  refine ⟨r, ?_, ?_⟩
  · unfold strata_ring.f
    have hcl : graph_Clean.f (n : Int) neg = some (dd (sortL neg), 0) := by unfold graph_Clean.f; rw [if_pos hl', hb]; rfl
    exact Ev.pure hcl h1
  · rcases h2 with ⟨h3, h4⟩ | h3
    · exact .inl ⟨h3, fun e he => h4 e (mem_sortL.2 he)⟩
    · obtain ⟨h5, e, he, hr⟩ := h3
      exact .inr ⟨h5, e, mem_sortL.1 he, hr⟩
theorem contains_l0 {l : List Int} {a : Int} (hl : l.length ≤ 1000000) : ∀ (d : List Int) (i : Nat), l.drop i = d → ∃ r : Int, Ev (fun k => slices_Index_int_int.l0 k l a (l.length : Int) (i : Int)) r ∧ (0 ≤ r ↔ a ∈ d)
  | [], i, hd => by
    refine ⟨-1, ?_, by simp⟩
    refine Ev.step (fun k => by rw [slices_Index_int_int.l0]) ?_
    exact Ev.neg (drop_end hd) (Ev.now _)
  | y :: d, i, hd => by
    obtain ⟨h1, h2, h3, h4, h5⟩ := drop_more hd (by omega)
    have e : rd l (i : Int) = y := h3 _
    by_cases c : a = y
    · refine ⟨(i : Int), ?_, by simp [c]⟩
      refine Ev.step (fun k => by rw [slices_Index_int_int.l0]) ?_
      rw [e]
      exact Ev.pos h1 (Ev.pos h2 (Ev.pos h1 (Ev.pos c (Ev.now _))))
    · obtain ⟨r, hr, hi⟩ := contains_l0 (a := a) hl d (i + 1) h4
      refine ⟨r, ?_, by rw [hi, List.mem_cons]; simp [c]⟩
      refine Ev.step (fun k => by rw [slices_Index_int_int.l0]) ?_
      rw [e, h5]
      exact Ev.pos h1 (Ev.pos h2 (Ev.pos h1 (Ev.neg c hr)))
theorem Contains_ev {l : List Int} {a : Int} (hl : l.length ≤ 1000000) : Ev (fun k => slices_Contains_int_int.f k l a) (decide (a ∈ l)) := by
  obtain ⟨r, hr, hi⟩ := contains_l0 (a := a) hl l 0 rfl
  unfold slices_Contains_int_int.f slices_Index_int_int.f
  refine Ev.bind hr (Ev.some ?_)
  rw [Bool.eq_iff_iff, decide_eq_true_iff, decide_eq_true_iff]
  exact hi
def mxl (c : IPair → Bool) (g : IPair → Int) : Int → List IPair → Int
  | v, [] => v
  | v, e :: l => mxl c g (if c e then mx v (g e) else v) l
theorem mx_le (a b : Int) : a ≤ mx a b ∧ b ≤ mx a b ∧ (mx a b = a ∨ mx a b = b) := by unfold mx; split <;> omega
theorem mxl_ge (c : IPair → Bool) (g : IPair → Int) : ∀ (l : List IPair) (v : Int), v ≤ mxl c g v l
  | [], v => Int.le_refl _
  | e :: l, v => by
    unfold mxl
    refine Int.le_trans ?_ (mxl_ge c g l _)
    split
    · exact (mx_le _ _).1
    · exact Int.le_refl _
theorem mxl_all (c : IPair → Bool) (g : IPair → Int) : ∀ (l : List IPair) (v : Int), ∀ e ∈ l, c e = true → g e ≤ mxl c g v l
  | [], v, e, he, _ => absurd he List.not_mem_nil
  | y :: l, v, e, he, hc => by
    unfold mxl
    rcases List.mem_cons.1 he with rfl | he
    · rw [if_pos hc]
      exact Int.le_trans (mx_le _ _).2.1 (mxl_ge c g l _)
    · exact mxl_all c g l _ e he hc
theorem mxl_is (c : IPair → Bool) (g : IPair → Int) : ∀ (l : List IPair) (v : Int), mxl c g v l = v ∨ ∃ e ∈ l, c e = true ∧ mxl c g v l = g e
  | [], v => .inl rfl
  | y :: l, v => by
    unfold mxl
    by_cases hc : c y = true
    · rw [if_pos hc]
      rcases mxl_is c g l (mx v (g y)) with h | ⟨e, he, h1, h2⟩
      · rcases (mx_le v (g y)).2.2 with h3 | h3
        · exact .inl (h.trans h3)
        · exact .inr ⟨y, List.mem_cons_self, hc, h.trans h3⟩
      · exact .inr ⟨e, List.mem_cons_of_mem _ he, h1, h2⟩
    · rw [if_neg hc]
      rcases mxl_is c g l v with h | ⟨e, he, h1, h2⟩
      · exact .inl h
      · exact .inr ⟨e, List.mem_cons_of_mem _ he, h1, h2⟩
def offB (row : List Int) (e : IPair) : Bool := decide (e.fst ∈ row) && !decide (e.snd ∈ row)
def onB (row : List Int) (e : IPair) : Bool := decide (e.fst ∈ row)
def vAt (out : List Int) (e : IPair) : Int := out.getD e.snd.toNat 0
def vUp (out : List Int) (e : IPair) : Int := out.getD e.snd.toNat 0 + 1
section
variable {n : Nat} {all neg : List IPair} {out row : List Int} {ps : List (List Int)} {x22 x23 : Int} {R : List Int}
theorem lev_l1 (ho : out.length = n) (ha : inE n all) (hl : all.length ≤ 1000000) (hr : row.length ≤ 1000000) : ∀ (d : List IPair) (i : Nat) (v : Int), all.drop i = d → Ev (fun k => strata_levels.l2 k all neg out row (mxl (offB row) (vAt out) v d) ps x22 x23 neg (neg.length : Int) 0) R →
    Ev (fun k => strata_levels.l1 k all neg out row v ps x22 x23 all (all.length : Int) (i : Int)) R
  | [], i, v, hd, h => by
    refine Ev.step (fun k => by rw [strata_levels.l1]) ?_
    exact Ev.neg (drop_end hd) h
  | y :: d, i, v, hd, h => by
    obtain ⟨h1, h2, h3, h4, h5⟩ := drop_more hd (by omega)
    have e : rd_T27 all (i : Int) = y := h3 _
    have hy := ha y (List.mem_of_mem_drop (by rw [hd]; exact List.mem_cons_self))
    have erd : rd out y.snd = vAt out y := rfl
    unfold mxl at h
    refine Ev.step (fun k => by rw [strata_levels.l1]) ?_
    rw [e, h5, erd]
    clear h5
    refine Ev.pos h1 (Ev.pos h2 (Ev.pos h1 (Ev.bind (Contains_ev hr) ?_)))
    by_cases c1 : y.fst ∈ row
    · refine Ev.pos (by simpa using c1) (Ev.bind (Contains_ev hr) ?_)
      by_cases c2 : y.snd ∈ row
      · rw [if_neg (by unfold offB; simp [c2])] at h
        exact Ev.pos (by simpa using c2) (lev_l1 ho ha hl hr d (i + 1) v h4 h)
      · rw [if_pos (by unfold offB; simp [c1, c2])] at h
        exact Ev.neg (by simpa using c2) (Ev.pos hy.2.2.1 (Ev.pos (by omega) (lev_l1 ho ha hl hr d (i + 1) _ h4 h)))
    · rw [if_neg (by unfold offB; simp [c1])] at h
      exact Ev.neg (by simpa using c1) (lev_l1 ho ha hl hr d (i + 1) v h4 h)
theorem lev_l2 (ho : out.length = n) (hv : ∀ v ∈ out, 0 ≤ v ∧ v ≤ 1000000) (hg : inE n neg) (hl : neg.length ≤ 1000000) (hr : row.length ≤ 1000000) : ∀ (d : List IPair) (i : Nat) (v : Int), neg.drop i = d → Ev (fun k => strata_levels.l3 k all neg out (mxl (onB row) (vUp out) v d) ps x22 x23 row (row.length : Int) 0) R →
    Ev (fun k => strata_levels.l2 k all neg out row v ps x22 x23 neg (neg.length : Int) (i : Int)) R
  | [], i, v, hd, h => by
    refine Ev.step (fun k => by rw [strata_levels.l2]) ?_
    exact Ev.neg (drop_end hd) h
  | y :: d, i, v, hd, h => by
    obtain ⟨h1, h2, h3, h4, h5⟩ := drop_more hd (by omega)
    have e : rd_T27 neg (i : Int) = y := h3 _
    have hy := hg y (List.mem_of_mem_drop (by rw [hd]; exact List.mem_cons_self))
    have hyl : y.snd.toNat < out.length := by clear h5; omega
    have hvy := hv (out[y.snd.toNat]) (List.getElem_mem hyl)
    have eg : out.getD y.snd.toNat 0 = out[y.snd.toNat] := by rw [List.getD_eq_getElem?_getD, List.getElem?_eq_getElem hyl]; rfl
    have erd : wrap64 (rd out y.snd + 1) = vUp out y := by
      show wrap64 (out.getD y.snd.toNat 0 + 1) = out.getD y.snd.toNat 0 + 1
      rw [eg]
      clear h5
      unfold wrap64
      omega
    unfold mxl at h
    refine Ev.step (fun k => by rw [strata_levels.l2]) ?_
    rw [e, h5, erd]
    clear h5 erd
    refine Ev.pos h1 (Ev.pos h2 (Ev.pos h1 (Ev.bind (Contains_ev hr) ?_)))
    by_cases c1 : y.fst ∈ row
    · rw [if_pos (by unfold onB; simp [c1])] at h
      exact Ev.pos (by simpa using c1) (Ev.pos hy.2.2.1 (Ev.pos (by omega) (lev_l2 ho hv hg hl hr d (i + 1) _ h4 h)))
    · rw [if_neg (by unfold onB; simp [c1])] at h
      exact Ev.neg (by simpa using c1) (lev_l2 ho hv hg hl hr d (i + 1) v h4 h)
def putL (L : Int) (out : List Int) (row : List Int) : List Int := row.foldl (fun o x => o.set x.toNat L) out
theorem putL_len (L : Int) : ∀ (row out : List Int), (putL L out row).length = out.length
  | [], out => rfl
  | x :: row, out => by
    have := putL_len L row (out.set x.toNat L)
    rw [List.length_set] at this
    exact this
theorem putL_get (L : Int) (y : Nat) : ∀ (row out : List Int), (∀ x ∈ row, 0 ≤ x ∧ x < (out.length : Int)) → (putL L out row).getD y 0 = if (y : Int) ∈ row then L else out.getD y 0
  | [], out, h => by simp [putL]
  | x :: row, out, h => by
    have hx := h x List.mem_cons_self
    have ih := putL_get L y row (out.set x.toNat L) (fun z hz => by rw [List.length_set]; exact h z (List.mem_cons_of_mem _ hz))
    show (putL L (out.set x.toNat L) row).getD y 0 = _
    rw [ih]
    by_cases c : (y : Int) ∈ row
    · rw [if_pos c, if_pos (List.mem_cons_of_mem _ c)]
    · rw [if_neg c]
      by_cases c2 : x.toNat = y
      · rw [if_pos (List.mem_cons.2 (.inl (by omega))), List.getD_eq_getElem?_getD, c2, List.getElem?_set_self (by omega)]
        rfl
      · rw [getD_set_ne _ _ _ _ c2, if_neg (fun hm => by
          rcases List.mem_cons.1 hm with hm | hm
          · omega
          · exact c hm)]
theorem lev_l3 (L : Int) (hb : ∀ x ∈ row, 0 ≤ x ∧ x < (n : Int)) (hr : row.length ≤ 1000000) : ∀ (d : List Int) (i : Nat) (o : List Int), row.drop i = d → o.length = n → Ev (fun k => strata_levels.l0 k all neg (putL L o d) ps x22 (wrap64 (x23 + 1))) R →
    Ev (fun k => strata_levels.l3 k all neg o L ps x22 x23 row (row.length : Int) (i : Int)) R
  | [], i, o, hd, ho, h => by
    refine Ev.step (fun k => by rw [strata_levels.l3]) ?_
    exact Ev.neg (drop_end hd) h
  | y :: d, i, o, hd, ho, h => by
    obtain ⟨h1, h2, h3, h4, h5⟩ := drop_more hd (by omega)
    have e : rd row (i : Int) = y := h3 _
    have hy := hb y (List.mem_of_mem_drop (by rw [hd]; exact List.mem_cons_self))
    refine Ev.step (fun k => by rw [strata_levels.l3]) ?_
    rw [e, h5]
    clear h5
    exact Ev.pos h1 (Ev.pos h2 (Ev.pos h1 (Ev.pos hy.1 (Ev.pos (by omega) (lev_l3 L hb hr d (i + 1) _ h4 (by rw [List.length_set]; exact ho) h)))))
end
end Go.Proofs.Ytmlhnjonmjmhdaa.H
/- strata: the levels are right, and least -/
namespace Go.Proofs.Ytmlhnjonmjmhdaa.H
open Go.RowKit Go.Proofs.YtmlhnjonmjmhdaaW.PrintWords
/-- numbers that are strata -/
structure Num (all neg : List IPair) (f : Nat → Int) : Prop where
  pos : ∀ i, 0 ≤ f i
  all : ∀ e ∈ all, f e.snd.toNat ≤ f e.fst.toNat
  neg : ∀ e ∈ neg, f e.snd.toNat < f e.fst.toNat
/-- what holds when so many parts have got their level -/
structure LvI (n : Nat) (all neg : List IPair) (xs : List Nat) (j : Nat) (out : List Int) : Prop where
  len : out.length = n
  bnd : ∀ v ∈ out, 0 ≤ v ∧ v ≤ (j : Int)
  le : ∀ e ∈ all, (∃ (i z : Nat), i < j ∧ xs[i]? = some z ∧ Eqv (rws n all) z e.fst.toNat) → out.getD e.snd.toNat 0 ≤ out.getD e.fst.toNat 0
  lt : ∀ e ∈ neg, (∃ (i z : Nat), i < j ∧ xs[i]? = some z ∧ Eqv (rws n all) z e.fst.toNat) → out.getD e.snd.toNat 0 < out.getD e.fst.toNat 0
  least : ∀ f, Num all neg f → ∀ i, i < n → out.getD i 0 ≤ f i
theorem edge_rch {n : Nat} {all : List IPair} (ha : inE n all) {e : IPair} (he : e ∈ all) : Rch (rws n all) e.fst.toNat e.snd.toNat := by
  have := ha e he
  exact .step .refl (mem_rws.2 ⟨by omega, e, he, rfl, rfl⟩)
theorem Num.rch {n : Nat} {all neg : List IPair} {f : Nat → Int} (hf : Num all neg f) (ha : inE n all) {a b : Nat} (h : Rch (rws n all) a b) : f b ≤ f a := by
  induction h with
  | refl => exact Int.le_refl _
  | step _ hy ih =>
    obtain ⟨_, e, he, h1, h2⟩ := mem_rws.1 hy
    have := hf.all e he
    rw [h1, h2] at this
    omega
def levOf (row : List Int) (all neg : List IPair) (out : List Int) : Int := mxl (onB row) (vUp out) (mxl (offB row) (vAt out) 0 all) neg
theorem LvI.next {n : Nat} {all neg : List IPair} {xs : List Nat} {j x : Nat} {out : List Int} (hn : n ≤ 1000) (ha : inE n all) (hg : ∀ e ∈ neg, e ∈ all) (hno : ∀ e ∈ neg, ¬ Rch (rws n all) e.snd.toNat e.fst.toNat) (hc : Cls (rws n all) xs) (hx : xs[j]? = some x) (h : LvI n all neg xs j out) :
    LvI n all neg xs (j + 1) (putL (levOf (partL (tabL (rws n all)) n x) all neg out) out (partL (tabL (rws n all)) n x)) := by
  have hlen := rws_len n all
  have hok := rws_ok (good_of hn ha)
  have hxl := hc.lt x (List.mem_of_getElem? hx)
  have hmem : ∀ v : Int, v ∈ partL (tabL (rws n all)) n x ↔ ∃ y : Nat, v = (y : Int) ∧ y < n ∧ Eqv (rws n all) x y := by
    intro v
    have := mem_partL hok hxl (v := v)
    rw [hlen] at this
    exact this
  generalize hrow : partL (tabL (rws n all)) n x = row at *
  have hrb : ∀ v ∈ row, 0 ≤ v ∧ v < (out.length : Int) := by
    intro v hv
    obtain ⟨y, rfl, hy, _⟩ := (hmem v).1 hv
    rw [h.len]
    omega
  have hget := fun y => putL_get (levOf row all neg out) y row out hrb
  have hin : ∀ y : Nat, y < n → (((y : Nat) : Int) ∈ row ↔ Eqv (rws n all) x y) := by
    intro y hy
    rw [hmem]
    constructor
    · rintro ⟨z, hz, _, he⟩
      have : z = y := by omega
      rw [← this]; exact he
    · intro he
      exact ⟨y, rfl, hy, he⟩
  have htn : ∀ v : Int, 0 ≤ v → ((v.toNat : Nat) : Int) = v := fun v hv => Int.toNat_of_nonneg hv
  -- a value of out
  have hval : ∀ y, 0 ≤ out.getD y 0 ∧ out.getD y 0 ≤ (j : Int) := by
    intro y
    rw [List.getD_eq_getElem?_getD]
    cases he : out[y]? with
    | none => simp
    | some v => exact h.bnd v (List.mem_of_getElem? he)
  -- the level
  have hL0 : 0 ≤ levOf row all neg out := by
    unfold levOf
    exact Int.le_trans (mxl_ge _ _ all 0) (mxl_ge _ _ neg _)
  have hLj : levOf row all neg out ≤ (j : Int) + 1 := by
    unfold levOf
    rcases mxl_is (onB row) (vUp out) neg (mxl (offB row) (vAt out) 0 all) with h1 | ⟨e, he, _, h1⟩
    · rw [h1]
      rcases mxl_is (offB row) (vAt out) all 0 with h2 | ⟨e, he, _, h2⟩
      · rw [h2]; omega
      · rw [h2]; have := (hval e.snd.toNat).2; unfold vAt; omega
    · rw [h1]; have := (hval e.snd.toNat).2; unfold vUp; omega
  have hLall : ∀ e ∈ all, e.fst ∈ row → e.snd ∉ row → out.getD e.snd.toNat 0 ≤ levOf row all neg out := by
    intro e he h1 h2
    unfold levOf
    exact Int.le_trans (mxl_all (offB row) (vAt out) all 0 e he (by unfold offB; simp [h1, h2])) (mxl_ge _ _ neg _)
  have hLneg : ∀ e ∈ neg, e.fst ∈ row → out.getD e.snd.toNat 0 + 1 ≤ levOf row all neg out := by
    intro e he h1
    unfold levOf
    exact mxl_all (onB row) (vUp out) neg _ e he (by unfold onB; simp [h1])
  -- a node of an earlier class is none of this one
  have hsep : ∀ (i z y : Nat), i < j → xs[i]? = some z → y < n → Eqv (rws n all) z y → ¬ ((y : Nat) : Int) ∈ row := by
    intro i z y hi hz hy he hm
    have h2 := (hin y hy).1 hm
    have hil := (List.getElem?_eq_some_iff.1 hz).1
    have hjl := (List.getElem?_eq_some_iff.1 hx).1
    have := (List.pairwise_iff_getElem.1 hc.apart) i j hil hjl hi
    rw [(List.getElem?_eq_some_iff.1 hz).2, (List.getElem?_eq_some_iff.1 hx).2] at this
    exact this (he.trans h2.symm)
  have hold : ∀ e ∈ all, (∃ (i z : Nat), i < j ∧ xs[i]? = some z ∧ Eqv (rws n all) z e.fst.toNat) → ¬ ((e.fst.toNat : Nat) : Int) ∈ row ∧ ¬ ((e.snd.toNat : Nat) : Int) ∈ row := by
    rintro e he ⟨i, z, hi, hz, hez⟩
    have heb := ha e he
    refine ⟨hsep i z _ hi hz (by omega) hez, ?_⟩
    rcases hc.ord i z e.snd.toNat hz (by rw [hlen]; omega) (hez.1.trans (edge_rch ha he)) with h1 | ⟨i', z', hi', hz', he'⟩
    · exact hsep i z _ hi hz (by omega) ⟨hez.1.trans (edge_rch ha he), h1⟩
    · exact hsep i' z' _ (by omega) hz' (by omega) he'
  have hcase : ∀ e ∈ all, (∃ (i z : Nat), i < j + 1 ∧ xs[i]? = some z ∧ Eqv (rws n all) z e.fst.toNat) → (∃ (i z : Nat), i < j ∧ xs[i]? = some z ∧ Eqv (rws n all) z e.fst.toNat) ∨ e.fst ∈ row := by
    rintro e he ⟨i, z, hi, hz, hez⟩
    have heb := ha e he
    by_cases c : i = j
    · rw [c, hx] at hz
      cases hz
      refine .inr ?_
      rw [← htn e.fst heb.1]
      exact (hin _ (by omega)).2 hez
    · exact .inl ⟨i, z, by omega, hz, hez⟩
  refine ⟨(putL_len _ row out).trans h.len, ?_, ?_, ?_, ?_⟩
  · intro v hv
    obtain ⟨y, hy⟩ := List.getElem?_of_mem hv
    have e1 : (putL (levOf row all neg out) out row).getD y 0 = v := by rw [List.getD_eq_getElem?_getD, hy]; rfl
    rw [← e1, hget]
    split
    · omega
    · have := hval y; omega
  · intro e he hp
    have heb := ha e he
    rw [hget, hget]
    rcases hcase e he hp with h1 | h1
    · obtain ⟨h2, h3⟩ := hold e he h1
      rw [if_neg h2, if_neg h3]
      exact h.le e he h1
    · rw [htn e.fst heb.1, if_pos h1, htn e.snd heb.2.2.1]
      split
      · exact Int.le_refl _
      · rename_i h2
        exact hLall e he h1 h2
  · intro e he hp
    have hea := hg e he
    have heb := ha e hea
    rw [hget, hget]
    rcases hcase e hea hp with h1 | h1
    · obtain ⟨h2, h3⟩ := hold e hea h1
      rw [if_neg h2, if_neg h3]
      exact h.lt e he h1
    · rw [htn e.fst heb.1, if_pos h1, htn e.snd heb.2.2.1]
      split
      · rename_i h2
        exfalso
        rw [← htn e.fst heb.1] at h1
        rw [← htn e.snd heb.2.2.1] at h2
        have h3 := (hin _ (by omega)).1 h1
        have h4 := (hin _ (by omega)).1 h2
        exact hno e he (h4.2.trans h3.1)
      · have := hLneg e he h1
        omega
  · intro f hf i hi
    rw [hget]
    split
    · rename_i hm
      have hei := (hin i hi).1 hm
      have same : ∀ e ∈ all, e.fst ∈ row → f e.fst.toNat ≤ f i := by
        intro e he h1
        have heb := ha e he
        rw [← htn e.fst heb.1] at h1
        have h3 := (hin _ (by omega)).1 h1
        exact hf.rch ha (hei.2.trans h3.1)
      unfold levOf
      rcases mxl_is (onB row) (vUp out) neg (mxl (offB row) (vAt out) 0 all) with h1 | ⟨e, he, h2, h1⟩
      · rw [h1]
        rcases mxl_is (offB row) (vAt out) all 0 with h2 | ⟨e, he, h3, h2⟩
        · rw [h2]; exact hf.pos i
        · rw [h2]
          have heb := ha e he
          have h4 : e.fst ∈ row := by unfold offB at h3; simp at h3; exact h3.1
          have h5 := h.least f hf e.snd.toNat (by omega)
          have h6 := hf.all e he
          have h7 := same e he h4
          unfold vAt
          omega
      · rw [h1]
        have hea := hg e he
        have heb := ha e hea
        have h4 : e.fst ∈ row := by unfold onB at h2; simpa using h2
        have h5 := h.least f hf e.snd.toNat (by omega)
        have h6 := hf.neg e he
        have h7 := same e hea h4
        unfold vUp
        omega
    · exact h.least f hf i hi
theorem lev_l0 {n : Nat} {all neg : List IPair} {xs : List Nat} (hn : n ≤ 1000) (hl : all.length ≤ 1000000) (hl' : neg.length ≤ 1000000) (ha : inE n all) (hg : ∀ e ∈ neg, e ∈ all) (hno : ∀ e ∈ neg, ¬ Rch (rws n all) e.snd.toNat e.fst.toNat) (hc : Cls (rws n all) xs) (hxs : xs.length ≤ 1000) :
    ∀ (d : List Nat) (j : Nat) (out : List Int), xs.drop j = d → j ≤ xs.length → LvI n all neg xs j out → ∃ r, Ev (fun k => strata_levels.l0 k all neg out (xs.map (partL (tabL (rws n all)) n)) (((xs.map (partL (tabL (rws n all)) n)).length : Nat) : Int) (j : Int)) r ∧ LvI n all neg xs xs.length r
  | [], j, out, hd, hjn, h => by
    have hj := drop_end hd
    refine ⟨out, ?_, ?_⟩
    · refine Ev.step (fun k => by rw [strata_levels.l0]) ?_
      exact Ev.neg (by rw [List.length_map]; exact hj) (Ev.now _)
    · refine ⟨h.len, ?_, fun e he ⟨i, z, _, hz, hez⟩ => h.le e he ⟨i, z, by have := (List.getElem?_eq_some_iff.1 hz).1; omega, hz, hez⟩, fun e he ⟨i, z, _, hz, hez⟩ => h.lt e he ⟨i, z, by have := (List.getElem?_eq_some_iff.1 hz).1; omega, hz, hez⟩, h.least⟩
      intro v hv
      have := h.bnd v hv
      omega
  | x :: d, j, out, hd, hjn, h => by
    obtain ⟨h1, h2, h3, h4, h5⟩ := drop_more hd (by omega)
    have hx : xs[j]? = some x := by
      have := congrArg (fun z => z[0]?) hd
      simpa using this
    have hjl : j < xs.length := by clear h5; omega
    have hlen := rws_len n all
    have hok := rws_ok (good_of hn ha)
    have hxl := hc.lt x (List.mem_of_getElem? hx)
    have erow : rd_L19 (xs.map (partL (tabL (rws n all)) n)) (j : Int) = partL (tabL (rws n all)) n x := by
      refine getD_at (n := j) ?_ _
      rw [List.getElem?_map, hx]
      rfl
    have hrl : (partL (tabL (rws n all)) n x).length ≤ 1000000 := by have := partL_len (tabL (rws n all)) x n; clear h5; omega
    have hrb : ∀ v ∈ partL (tabL (rws n all)) n x, 0 ≤ v ∧ v < (n : Int) := by
      intro v hv
      have := mem_partL hok hxl (v := v)
      rw [hlen] at this
      obtain ⟨y, rfl, hy, _⟩ := this.1 hv
      clear h5
      omega
    have hbnd : ∀ v ∈ out, 0 ≤ v ∧ v ≤ 1000000 := fun v hv => by have := h.bnd v hv; clear h5; omega
    obtain ⟨r, hr, hR⟩ := lev_l0 hn hl hl' ha hg hno hc hxs d (j + 1) _ h4 hjl (h.next hn ha hg hno hc hx)
    refine ⟨r, ?_, hR⟩
    refine Ev.step (fun k => by rw [strata_levels.l0]) ?_
    refine Ev.pos (by rw [List.length_map]; exact h1) (Ev.pos h2 (Ev.pos (by rw [List.length_map]; exact h1) ?_))
    rw [erow]
    refine lev_l1 h.len ha hl hrl all 0 0 rfl ?_
    refine lev_l2 h.len hbnd (fun e he => ha e (hg e he)) hl' hrl neg 0 _ rfl ?_
    refine lev_l3 (n := n) _ hrb hrl _ 0 out rfl h.len ?_
    rw [h5]
    exact hr
theorem Levels_ev {n : Nat} {all neg : List IPair} (hn : n ≤ 1000) (hl : all.length ≤ 1000000) (hl' : neg.length ≤ 1000000) (ha : inE n all) (hg : ∀ e ∈ neg, e ∈ all) (hno : ∀ e ∈ neg, ¬ Rch (rws n all) e.snd.toNat e.fst.toNat) :
    ∃ r, Ev (fun k => strata_levels.f k (n : Int) all neg) r ∧ r.length = n ∧ (∀ v ∈ r, 0 ≤ v ∧ v ≤ 1000) ∧ (∀ e ∈ all, r.getD e.snd.toNat 0 ≤ r.getD e.fst.toNat 0) ∧ (∀ e ∈ neg, r.getD e.snd.toNat 0 < r.getD e.fst.toNat 0) ∧ ∀ f, Num all neg f → ∀ i, i < n → r.getD i 0 ≤ f i := by
  obtain ⟨xs, hx, hc⟩ := Parts_cls hl (good_of hn ha)
  have hlen := rws_len n all
  have hxs : xs.length ≤ 1000 := by
    have := few_le (fun a b => a = b) xs (List.range n) (fun z hz => ⟨z, List.mem_range.2 (by have := hc.lt z hz; omega), rfl⟩) (hc.apart.imp (fun {a b} hab y hy => hab (by rw [hy.1, hy.2]; exact ⟨.refl, .refl⟩)))
    rw [List.length_range] at this
    omega
  have hz : ∀ y, (List.replicate n (0 : Int)).getD y 0 = 0 := by
    intro y
    rw [List.getD_eq_getElem?_getD, List.getElem?_replicate]
    split <;> rfl
  obtain ⟨r, hr, hR⟩ := lev_l0 hn hl hl' ha hg hno hc hxs xs 0 (List.replicate n 0) rfl (Nat.zero_le _) ⟨by simp, fun v hv => by rw [(List.mem_replicate.1 hv).2]; omega, fun e he ⟨i, z, hi, _⟩ => by omega, fun e he ⟨i, z, hi, _⟩ => by omega, fun f hf i hi => by rw [hz]; exact hf.pos i⟩
  have hall : ∀ e ∈ all, ∃ (i z : Nat), i < xs.length ∧ xs[i]? = some z ∧ Eqv (rws n all) z e.fst.toNat := by
    intro e he
    have heb := ha e he
    obtain ⟨z, hz, hez⟩ := hc.all e.fst.toNat (by rw [hlen]; omega)
    obtain ⟨i, hi⟩ := List.getElem?_of_mem hz
    exact ⟨i, z, (List.getElem?_eq_some_iff.1 hi).1, hi, hez⟩
  refine ⟨r, ?_, hR.len, fun v hv => by have := hR.bnd v hv; omega, fun e he => hR.le e he (hall e he), fun e he => hR.lt e he (hall e (hg e he)), hR.least⟩
  unfold strata_levels.f
  refine Ev.pos (by omega) (Ev.pos (by omega) (Ev.bind hx ?_))
  rw [Int.toNat_natCast]
  exact hr
end Go.Proofs.Ytmlhnjonmjmhdaa.H
namespace Go.Proofs.Ytmlhnjonmjmhdaa.H
open Go.RowKit Go.Proofs.YtmlhnjonmjmhdaaW.PrintWords Go.Proofs.YtmlhnjonmjmhdaaW.PrintLast Go.Proofs.YtmlhnjonmjmhdaaW.PrintMore
attribute [local go_sem] max2_int min2_int max_two min_two max_three min_three max_four min_four
def lambrequinlaw11_rule.f (a0 : ByteArray) (a1 : Int) (a2 : ByteArray) : Option (ByteArray × (List (Term)) × (List (Liter))) := some (a0, ([] : List (Term)), (([(⟨a1, (⟨a2, ([] : List (Term))⟩ : Atom), (⟨#[]⟩ : ByteArray), (⟨false, (⟨#[]⟩ : ByteArray), (⟨false, (⟨#[]⟩ : ByteArray), 0⟩ : Val)⟩ : Term), (⟨false, (⟨#[]⟩ : ByteArray), (⟨false, (⟨#[]⟩ : ByteArray), 0⟩ : Val)⟩ : Term)⟩ : Liter)] : List (Liter))))
set_option maxHeartbeats 8000000 in
set_option maxRecDepth 100000 in
theorem lambrequinlaw11_rule.calls (a0 : ByteArray) (a1 : Int) (a2 : ByteArray) (r1 : ByteArray) (r2 : List (Term)) (r3 : List (Liter)) (w : World) (h : lambrequinlaw11_rule.f a0 a1 a2 = some (r1, r2, r3)) :
  Calls Try.prog 50 #[.string a0, .int .i64 a1, .string a2] w fun e w' => ∃ v1_ v2_ : Value, e = .returned (.agg #[.string r1, v1_, v2_]) ∧ Kd.R k69 69 w' w.heap.size (fun _ => True) v1_ r2 ∧ Kd.S k71 71 w' w.heap.size (fun k_ => some k_ ≠ (v1_ : Value).ownBlock) v2_ r3 ∧ Below w.heap.size w w' := by
 have hu64 := Try.underlying64
 have hu61 := Try.underlying61
 have hu71 := Try.underlying71
 have HB := Aside0.mk (Below.refl w.heap.size w)
 have H : (some (a0, ([] : List (Term)), (([(⟨a1, (⟨a2, ([] : List (Term))⟩ : Atom), (⟨#[]⟩ : ByteArray), (⟨false, (⟨#[]⟩ : ByteArray), (⟨false, (⟨#[]⟩ : ByteArray), 0⟩ : Val)⟩ : Term), (⟨false, (⟨#[]⟩ : ByteArray), (⟨false, (⟨#[]⟩ : ByteArray), 0⟩ : Val)⟩ : Term)⟩ : Liter)] : List (Liter))))) = some (r1, r2, r3) := h
 clear h
 obtain ⟨y102, hy102⟩ : ∃ y_ : List (Liter), y_ = (([(⟨a1, (⟨a2, ([] : List (Term))⟩ : Atom), (⟨#[]⟩ : ByteArray), (⟨false, (⟨#[]⟩ : ByteArray), (⟨false, (⟨#[]⟩ : ByteArray), 0⟩ : Val)⟩ : Term), (⟨false, (⟨#[]⟩ : ByteArray), (⟨false, (⟨#[]⟩ : ByteArray), 0⟩ : Val)⟩ : Term)⟩ : Liter)] : List (Liter))) := ⟨_, rfl⟩
 replace H : (some (a0, ([] : List (Term)), y102)) = some (r1, r2, r3) := by first | (rw [hy102]; with_reducible exact H) | (have H2_ := (Option.bind_some _ _).symm.trans H; rw [hy102]; with_reducible exact H2_) | (have H2_ := (Option.bind_some _ _).symm.trans H; with_reducible exact H2_) | with_reducible exact H | (rw [hy102]; exact H) | exact H
 have Ny102 := Aside0.mk hy102
 clear hy102
 simp only [Option.some.injEq, Prod.mk.injEq] at H
 obtain ⟨rfl, rfl, rfl⟩ := H
 go_enter Try.func50, Try.ntmps50
 go_wp2_with (first | ((with_reducible refine gate_dst (N := 6) rfl ?_); refine box_event ?hg (N := 6) ?hd (cs := #[.string (⟨#[]⟩ : ByteArray), .slice none 0 0, .slice none 0 0]) (t := 64) ?hr ?_; (case hd => rfl); (case hg => rfl); (case hr => first | (go_simp; done) | (go_simp; rfl)); intro gb101 hg w4 hbox hb; have n0_ := Aside0.mk (below_step (by repeat (first | (with_reducible first | exact HB.out | apply below_alloc | apply pw_below_drewN | apply below_drew1) | exact HB.out)) hb); have n1_ := Aside0.mk (hbox); have n2_ := Aside0.mk ((by rw [hg]; exact (below_size (by repeat (first | (with_reducible first | exact HB.out | apply below_alloc | apply pw_below_drewN | apply below_drew1) | exact HB.out))) : w.heap.size ≤ gb101)); have n3_ := Aside0.mk ((by rw [hg]; exact (below_size (by repeat (first | (with_reducible first | exact HB.out | apply below_alloc | apply pw_below_drewN | apply below_drew1) | exact HB.out))) : w.heap.size ≤ gb101)); clear HB; have HB := n0_; have BK101 := n1_; have GW101 := n2_; have GE101 := n3_; clear n0_ n1_ n2_ n3_; clear hb hbox hg) | ((with_reducible refine gate_dst (N := 13) rfl ?_); refine Kd.S_lit k71 _ 71 ?hg (N := 13) ?hd (xs := ([(⟨a1, (⟨a2, ([] : List (Term))⟩ : Atom), (⟨#[]⟩ : ByteArray), (⟨false, (⟨#[]⟩ : ByteArray), (⟨false, (⟨#[]⟩ : ByteArray), 0⟩ : Val)⟩ : Term), (⟨false, (⟨#[]⟩ : ByteArray), (⟨false, (⟨#[]⟩ : ByteArray), 0⟩ : Val)⟩ : Term)⟩ : Liter)] : List (Liter))) (inner := [.int .i64 a1, .string a2, .slice none 0 0, .string (⟨#[]⟩ : ByteArray), .bool false, .string (⟨#[]⟩ : ByteArray), .bool false, .string (⟨#[]⟩ : ByteArray), .int .i64 0, .bool false, .string (⟨#[]⟩ : ByteArray), .bool false, .string (⟨#[]⟩ : ByteArray), .int .i64 0]) (ok := fun _ => True) (okp := fun _ => True) ?hr ?hp (fun _ hk => hk) trivial (Below.refl _ _) (Nat.le_refl _) (by simp) ?_; (case hd => rfl); (case hg => rfl); (case hr => first | (go_simp; done) | (go_simp; rfl)); (case hp => exact (Reps.front (show Kd.M k71 _ _ _ (⟨a1, (⟨a2, ([] : List (Term))⟩ : Atom), (⟨#[]⟩ : ByteArray), (⟨false, (⟨#[]⟩ : ByteArray), (⟨false, (⟨#[]⟩ : ByteArray), 0⟩ : Val)⟩ : Term), (⟨false, (⟨#[]⟩ : ByteArray), (⟨false, (⟨#[]⟩ : ByteArray), 0⟩ : Val)⟩ : Term)⟩ : Liter) [.int .i64 a1, .string a2, .slice none 0 0, .string (⟨#[]⟩ : ByteArray), .bool false, .string (⟨#[]⟩ : ByteArray), .bool false, .string (⟨#[]⟩ : ByteArray), .int .i64 0, .bool false, .string (⟨#[]⟩ : ByteArray), .bool false, .string (⟨#[]⟩ : ByteArray), .int .i64 0] from (k71_mkM _ _ _ (⟨a1, (⟨a2, ([] : List (Term))⟩ : Atom), (⟨#[]⟩ : ByteArray), (⟨false, (⟨#[]⟩ : ByteArray), (⟨false, (⟨#[]⟩ : ByteArray), 0⟩ : Val)⟩ : Term), (⟨false, (⟨#[]⟩ : ByteArray), (⟨false, (⟨#[]⟩ : ByteArray), 0⟩ : Val)⟩ : Term)⟩ : Liter) (Kd.R_nil _ _ _ _ _))) rfl (Reps.none _ _) rfl)); intro v103 w5 ho6 hb hg_ hnew_; clear hg_ hnew_; (first | rw [← Ny102.out] at ho6 | (simp only [Int.reduceToNat] at ho6; rw [← Ny102.out] at ho6)); have n0_ := Aside0.mk (Kd.S_lower ho6 (below_size (by repeat (first | (with_reducible first | exact HB.out | apply below_alloc | apply pw_below_drewN | apply below_drew1 | refine below_set ?_ GE101.out) | exact HB.out)))); have n1_ := Aside0.mk (blk_below (g := gb101) (o := .cells #[.string (⟨#[]⟩ : ByteArray), .slice none 0 0, .slice none 0 0] 64 (0, 0)) (by (with_reducible repeat (first | refine blk_drewN ?_ _ | refine blk_drew ?_ | refine blk_alloc ?_ _)); exact BK101.out) hb); have n2_ := Aside0.mk (below_step (by repeat (first | (with_reducible first | exact HB.out | apply below_alloc | apply pw_below_drewN | apply below_drew1 | refine below_set ?_ GE101.out) | exact HB.out)) hb); clear BK101; clear HB; have HO104 := n0_; have BK101 := n1_; have HB := n2_; clear n0_ n1_ n2_; clear hb ho6; obtain ⟨Ao7, co7, eo7⟩ := Kd.S_slice HO104.out; subst eo7; have hcz8_0 : w5.cell? ⟨gb101, 0, none⟩ = some (.string (⟨#[]⟩ : ByteArray)) := (blk_cell BK101.out 0).trans rfl; have hcz8_1 : w5.cell? ⟨gb101, 1, none⟩ = some (.slice none 0 0) := (blk_cell BK101.out 1).trans rfl; have hcz8_2 : w5.cell? ⟨gb101, 2, none⟩ = some (.slice none 0 0) := (blk_cell BK101.out 2).trans rfl; have hfz8_0 := blk_frozen BK101.out 0; have hfz8_1 := blk_frozen BK101.out 1; have hfz8_2 := blk_frozen BK101.out 2))
 refine bodyPost_ret (results_cell_row rfl _ _ gb101 64 #[.string a0, .slice none 0 0, .slice Ao7 y102.length co7] (0, 0) _ rfl (by (with_reducible repeat (first | refine blk_drewN ?_ _ | refine blk_drew ?_ | refine blk_alloc ?_ _)); refine blk_put (cs := #[.string a0, .slice none 0 0, .slice none 0 0]) ?_ 2 _ rfl; (with_reducible repeat (first | refine blk_drewN ?_ _ | refine blk_drew ?_ | refine blk_alloc ?_ _)); refine blk_put (cs := #[.string a0, .slice none 0 0, .slice none 0 0]) ?_ 1 _ rfl; (with_reducible repeat (first | refine blk_drewN ?_ _ | refine blk_drew ?_ | refine blk_alloc ?_ _)); refine blk_put (cs := #[.string (⟨#[]⟩ : ByteArray), .slice none 0 0, .slice none 0 0]) ?_ 0 _ rfl; (with_reducible repeat (first | refine blk_drewN ?_ _ | refine blk_drew ?_ | refine blk_alloc ?_ _)); exact BK101.out) Try.underlying64 rfl (by kernel_rfl)) rfl ?_
 exact ⟨_, _, by first | rfl | (simp [errW_none, errW_some] <;> rfl) | (simp [*, errW_none, errW_some] <;> rfl), by first | exact Kd.R_nil _ _ _ _ _ | exact Kd.N_nil _ _ _ _ _ | exact Kd.V_nil _ _ _ _ _ | exact Kd.Q_nil _ _ _ _ _ | exact Kd.S_nil _ _ _ _ _, by (with_reducible repeat (first | apply Kd.S_alloc | apply Kd.S_drewN | apply Kd.S_drew)); exact Kd.S_mono (Kd.S_far (p := ⟨gb101, 2, none⟩) (Kd.S_far (p := ⟨gb101, 1, none⟩) (Kd.S_far (p := ⟨gb101, 0, none⟩) (Kd.S_types HO104.out BK101.out (by decide)) (fun _ hk => hk.2) _) (fun _ hk => hk.2) _) (fun _ hk => hk.2) _) (fun _ hk => (by simp [Value.ownBlock])), by repeat (first | (with_reducible first | exact HB.out | apply below_alloc | apply pw_below_drewN | apply below_drew1 | refine below_set ?_ GE101.out) | exact HB.out)⟩
def lambrequinref09_Same.l0 : Nat → List ByteArray → List ByteArray → Int → Option (Bool)
 | 0, _, _, _ => none
 | k + 1, x0, x1, x5 => if x5 < (x0.length : Int) then (if 0 ≤ x5 then (if x5 < (x1.length : Int) then (if (rdOf ByteArray.empty x0 x5).toList = (rdOf ByteArray.empty x1 x5).toList then (lambrequinref09_Same.l0 k x0 x1 (wrap64 (x5 + 1))) else (some false)) else (none)) else (none)) else (some true)
def lambrequinref09_Same.f (k : Nat) (l0 : List ByteArray) (l1 : List ByteArray) : Option (Bool) := if (l0.length : Int) = (l1.length : Int) then (lambrequinref09_Same.l0 k l0 l1 0) else (some false)
theorem lambrequinref09_Same.mono_l : ∀ k, (∀ y0 y1 y2, LeO (lambrequinref09_Same.l0 k y0 y1 y2) (lambrequinref09_Same.l0 (k + 1) y0 y1 y2))
 | 0 => fun _ _ _ r h => by simp [lambrequinref09_Same.l0] at h
 | k + 1 => by
  have ih0 := lambrequinref09_Same.mono_l k
  ·intro y0 y1 y2
   unfold lambrequinref09_Same.l0
   repeat' first
   | (with_reducible exact ih0 _ _ _)
   | (with_reducible exact LeO.refl _)
   | (with_reducible exact LeO.none _)
   | (with_reducible refine LeO.ite ?_ ?_)
   | (with_reducible refine LeO.bind ?_ (fun _ => ?_))
   | exact ih0 _ _ _
   | exact LeO.none _
   | refine LeO.ite ?_ ?_
   | refine LeO.bind ?_ (fun _ => ?_)
theorem lambrequinref09_Same.mono : ∀ a0 a1 k, LeO (lambrequinref09_Same.f k a0 a1) (lambrequinref09_Same.f (k + 1) a0 a1) := by
 intro a0 a1 k
 have ih0 := lambrequinref09_Same.mono_l k
 unfold lambrequinref09_Same.f
 repeat' first
   | (with_reducible exact ih0 _ _ _)
   | (with_reducible exact LeO.refl _)
   | (with_reducible exact LeO.none _)
   | (with_reducible refine LeO.ite ?_ ?_)
   | (with_reducible refine LeO.bind ?_ (fun _ => ?_))
   | exact ih0 _ _ _
   | exact LeO.none _
   | refine LeO.ite ?_ ?_
   | refine LeO.bind ?_ (fun _ => ?_)
set_option maxHeartbeats 8000000 in
set_option maxRecDepth 100000 in
theorem lambrequinref09_Same.calls (k : Nat) (A0 : Option Addr) (c0 : Nat) (l0 : List ByteArray) (A1 : Option Addr) (c1 : Nat) (l1 : List ByteArray) (r : Bool) (w : World) (hr0 : Kd.C Kd.string w A0 l0.length l0) (hc0 : l0.length ≤ c0) (hr1 : Kd.C Kd.string w A1 l1.length l1) (hc1 : l1.length ≤ c1) (h : lambrequinref09_Same.f k l0 l1 = some r) :
  Calls Try.prog 31 #[.slice A0 l0.length c0, .slice A1 l1.length c1] w fun e w' => e = .returned (.bool r) ∧ Drawn0 w w' := by
 have HR0 := Aside0.mk hr0
 have HC0 := Aside0.mk hc0
 clear hr0 hc0
 have HR1 := Aside0.mk hr1
 have HC1 := Aside0.mk hc1
 clear hr1 hc1
 have H : (if (l0.length : Int) = (l1.length : Int) then (lambrequinref09_Same.l0 k l0 l1 0) else (some false)) = some r := h
 clear h
 by_cases c3 : (l0.length : Int) = (l1.length : Int)
 ·rw [if_pos c3] at H
  have c3b0 : ((l0.length : Int) == (l1.length : Int)) = true := beq_iff_eq.mpr c3
  have c3b1 : ((l0.length : Int) != (l1.length : Int)) = false := bne_eq_false_iff_eq.mpr c3
  have c3b2 : (l0.length == l1.length) = true := by first | simpa using c3 | (simp at c3 ⊢; omega)
  clear c3
  have H' := Aside0.mk H
  clear H
  go_enter Try.func31, Try.ntmps31
  go_wp2
  repeat (go_quiet (fail); try go_wp2)
  go_loopg [5] k (fun kq v5 w' => ∃ (x5_1 : Int), v5 = .int .i64 x5_1 ∧ Aside0 (lambrequinref09_Same.l0 kq l0 l1 x5_1 = some r) ∧ Aside0 (kq ≤ k) ∧ Drawn0 w w')
  case atStart => exact ⟨(0), (by first | rfl | (simp; done) | (simp [*]; done)), H', ⟨Nat.le_refl _⟩, by repeat (first | exact Drawn0.refl _ | apply Drawn0.step)⟩
  case round =>
   clear H'
   try clear c1
   try clear p2
   try clear c3
   try clear c3b0
   try clear c3b1
   try clear c3b2
   obtain ⟨x5_1, rfl, HA, HK1, ⟨m1, rfl⟩⟩ := hrel
   cases gk with
   | zero => exact absurd HA.out (by simp [lambrequinref09_Same.l0])
   | succ k1 =>
    have H := HA.out
    clear HA
    simp only [lambrequinref09_Same.l0] at H
    by_cases c4 : x5_1 < (l0.length : Int)
    ·rw [if_pos c4] at H
     have c4b0 : decide (x5_1 < (l0.length : Int)) = true := decide_eq_true c4
     clear c4
     by_cases c5 : 0 ≤ x5_1
     ·rw [if_pos c5] at H
      have c5b0 : decide (0 ≤ x5_1) = true := decide_eq_true c5
      clear c5
      by_cases c6 : x5_1 < (l1.length : Int)
      ·rw [if_pos c6] at H
       have c6b0 : decide (x5_1 < (l1.length : Int)) = true := decide_eq_true c6
       clear c6
       by_cases c7 : (rdOf ByteArray.empty l0 x5_1).toList = (rdOf ByteArray.empty l1 x5_1).toList
       ·rw [if_pos c7] at H
        have c7b0 : ((rdOf ByteArray.empty l0 x5_1).toList == (rdOf ByteArray.empty l1 x5_1).toList) = true := beq_iff_eq.mpr c7
        have c7b1 : ((rdOf ByteArray.empty l0 x5_1).toList != (rdOf ByteArray.empty l1 x5_1).toList) = false := bne_eq_false_iff_eq.mpr c7
        clear c7
        have H' := Aside0.mk H
        clear H
        have p101 : 0 ≤ (x5_1 : Int) := of_decide_eq_true (by first | (with_reducible assumption) | assumption)
        have q101 : x5_1 < (l0.length : Int) := of_decide_eq_true (by first | (with_reducible assumption) | assumption)
        obtain ⟨ad101, e101, hx101_0⟩ := Kd.at_string HR0.out x5_1 p101 q101
        cases e101
        replace p101 := eq_true p101
        replace q101 := eq_true q101
        have p102 : 0 ≤ (x5_1 : Int) := of_decide_eq_true (by first | (with_reducible assumption) | assumption)
        have q102 : x5_1 < (l1.length : Int) := of_decide_eq_true (by first | (with_reducible assumption) | assumption)
        obtain ⟨ad102, e102, hx102_0⟩ := Kd.at_string HR1.out x5_1 p102 q102
        cases e102
        replace p102 := eq_true p102
        replace q102 := eq_true q102
        go_wp2
        repeat (go_quiet (fail); try go_wp2)
        go_roundg k1
        case measure => have := HK1.out; omega
        case rel => exact ⟨(wrap64 (x5_1 + 1)), (by first | rfl | (simp; done) | (simp [*]; done)), H', ⟨by have := HK1.out; omega⟩, by repeat (first | exact Drawn0.refl _ | apply Drawn0.step)⟩
       ·rw [if_neg c7] at H
        have c7b0 : ((rdOf ByteArray.empty l0 x5_1).toList == (rdOf ByteArray.empty l1 x5_1).toList) = false := beq_eq_false_iff_ne.mpr c7
        have c7b1 : ((rdOf ByteArray.empty l0 x5_1).toList != (rdOf ByteArray.empty l1 x5_1).toList) = true := bne_iff_ne.mpr c7
        obtain rfl := Option.some.inj H
        have p101 : 0 ≤ (x5_1 : Int) := of_decide_eq_true (by first | (with_reducible assumption) | assumption)
        have q101 : x5_1 < (l0.length : Int) := of_decide_eq_true (by first | (with_reducible assumption) | assumption)
        obtain ⟨ad101, e101, hx101_0⟩ := Kd.at_string HR0.out x5_1 p101 q101
        cases e101
        replace p101 := eq_true p101
        replace q101 := eq_true q101
        have p102 : 0 ≤ (x5_1 : Int) := of_decide_eq_true (by first | (with_reducible assumption) | assumption)
        have q102 : x5_1 < (l1.length : Int) := of_decide_eq_true (by first | (with_reducible assumption) | assumption)
        obtain ⟨ad102, e102, hx102_0⟩ := Kd.at_string HR1.out x5_1 p102 q102
        cases e102
        replace p102 := eq_true p102
        replace q102 := eq_true q102
        go_wp2
        repeat (go_quiet (fail); try go_wp2)
        go_ret
        exact ⟨by first | rfl | (simp; done) | (simp [*]; done), by repeat (first | exact Drawn0.refl _ | apply Drawn0.step)⟩
      ·rw [if_neg c6] at H
       exact absurd H (by simp)
     ·rw [if_neg c5] at H
      exact absurd H (by simp)
    ·rw [if_neg c4] at H
     have c4b0 : decide (x5_1 < (l0.length : Int)) = false := decide_eq_false c4
     clear c4
     obtain rfl := Option.some.inj H
     go_wp2
     repeat (go_quiet (fail); try go_wp2)
     go_ret
     exact ⟨by first | rfl | (simp; done) | (simp [*]; done), by repeat (first | exact Drawn0.refl _ | apply Drawn0.step)⟩
 ·rw [if_neg c3] at H
  have c3b0 : ((l0.length : Int) == (l1.length : Int)) = false := beq_eq_false_iff_ne.mpr c3
  have c3b1 : ((l0.length : Int) != (l1.length : Int)) = true := bne_iff_ne.mpr c3
  have c3b2 : (l0.length == l1.length) = false := by first | simpa using c3 | (simp at c3 ⊢; omega)
  obtain rfl := Option.some.inj H
  go_enter Try.func31, Try.ntmps31
  go_wp2
  repeat (go_quiet (fail); try go_wp2)
  go_ret
  exact ⟨by first | rfl | (simp; done) | (simp [*]; done), by repeat (first | exact Drawn0.refl _ | apply Drawn0.step)⟩
end Go.Proofs.Ytmlhnjonmjmhdaa.H
namespace Go.Proofs.Ytmlhnjonmjmhdaa.H
open Go.RowKit Go.Proofs.YtmlhnjonmjmhdaaW.PrintWords
def varOf (s : ByteArray) : Term := ⟨true, s, ⟨false, ⟨#[]⟩, 0⟩⟩
def noTerm : Term := ⟨false, ⟨#[]⟩, ⟨false, ⟨#[]⟩, 0⟩⟩
theorem blk_new' {w : World} {n : Nat} (h : w.heap.size = n) (o : Obj) : (w.alloc o).heap[n]? = some o := by subst h; exact blk_new w o
end Go.Proofs.Ytmlhnjonmjmhdaa.H
/- the document's examples at the head of all laws of layer 11 -/
namespace Go.Proofs.Ytmlhnjonmjmhdaa.H
open Go.RowKit Go.Proofs.YtmlhnjonmjmhdaaW.PrintWords Go.Proofs.YtmlhnjonmjmhdaaW.PrintLast Go.Proofs.YtmlhnjonmjmhdaaW.PrintMore
def rl11 (h : ByteArray) (k : Int) (b : ByteArray) : Rule := ⟨⟨h, []⟩, [⟨k, ⟨b, []⟩, ⟨#[]⟩, noTerm, noTerm⟩]⟩
def ex11a : List Rule := [rl11 ⟨#[112]⟩ 2 ⟨#[113]⟩, rl11 ⟨#[113]⟩ 1 ⟨#[114]⟩]
def ex11b : List Rule := [rl11 ⟨#[112]⟩ 2 ⟨#[112]⟩]
def lambrequinlaw11_shown.f (k : Nat) : Option Bool := (strata_Of.f k [] ex11a).bind fun x => (strata_Of.f k [] ex11b).bind fun y => if x = ([1, 0, 0], [], 0) ∧ y = ([], [⟨#[112]⟩, ⟨#[112]⟩], 7) then some true else none
theorem lambrequinlaw11_shown.mono : ∀ k, LeO (lambrequinlaw11_shown.f k) (lambrequinlaw11_shown.f (k + 1)) := by
  intro k
  unfold lambrequinlaw11_shown.f
  exact LeO.bind (strata_Of.mono _ _ k) (fun _ => LeO.bind (strata_Of.mono _ _ k) (fun _ => LeO.refl _))
theorem rl11_K {W : World} {b b' : Nat} {ok ok' : Nat → Prop} {x : Rule} {u v : Value} (h1 : Kd.R k69 69 W b ok u x.head.args) (h2 : Kd.R k71 71 W b' ok' v x.body) : k64.K W x [.string x.head.pred, u, v] := by
  obtain ⟨A, c, rfl, l, g⟩ := Kd.R_reads h1
  obtain ⟨A', c', rfl, l', g'⟩ := Kd.R_reads h2
  exact k64_mk W x l g l' g'
theorem sh11_rule (h : ByteArray) (k : Int) (b : ByteArray) (w : World) :
    Calls Try.prog 50 #[.string h, .int .i64 k, .string b] w fun e w' => ∃ u v : Value, e = .returned (.agg #[.string h, u, v]) ∧ Aside0 (k64.K w' (rl11 h k b) [.string h, u, v]) ∧ Aside0 (Below w.heap.size w w') := by
  refine (lambrequinlaw11_rule.calls h k b _ _ _ w rfl).mono ?_
  rintro e w' ⟨u, v, rfl, h1, h2, hb⟩
  exact ⟨u, v, rfl, ⟨rl11_K (x := rl11 h k b) h1 (Kd.S_R h2)⟩, ⟨hb⟩⟩
theorem keep11 {w w' : World} {x : Rule} {cs : List Value} (h : Aside0 (k64.K w x cs)) (hb : Aside0 (Below w.heap.size w w')) : Aside0 (k64.K w' x cs) := ⟨Kd.K_below _ hb.out h.out⟩
theorem rep11 (W : World) : Reps (Kd.string.K W) Kd.string.sz [⟨#[112]⟩, ⟨#[112]⟩] [.string ⟨#[112]⟩, .string ⟨#[112]⟩] := by
  have h0 : Reps (Kd.string.K W) 1 ([] : List ByteArray) [] := Reps.none _ _
  have h1 : Reps (Kd.string.K W) 1 ([] ++ [(⟨#[112]⟩ : ByteArray)]) ([] ++ [.string ⟨#[112]⟩]) := Reps.snoc h0 rfl rfl
  exact Reps.snoc h1 (show Kd.string.K W (⟨#[112]⟩ : ByteArray) [.string ⟨#[112]⟩] from rfl) rfl
theorem keepI11 {w w' : World} {A : Option Addr} {c : Nat} (h : Aside0 (Kd.C (Kd.int .i64) w A 3 [1, 0, 0] ∧ 3 ≤ c)) (hb : Aside0 (Below w.heap.size w w')) : Aside0 (Kd.C (Kd.int .i64) w' A 3 [1, 0, 0] ∧ 3 ≤ c) := ⟨Kd.C_below h.out.1 hb.out, h.out.2⟩
theorem sh11_a (K : Nat) (hk : Aside0 (strata_Of.f K [] ex11a = some ([1, 0, 0], [], 0))) (W W' : World) (u1 v1 u2 v2 : Value) (h1 : Aside0 (k64.K W (rl11 ⟨#[112]⟩ 2 ⟨#[113]⟩) [.string ⟨#[112]⟩, u1, v1])) (h2 : Aside0 (k64.K W (rl11 ⟨#[113]⟩ 1 ⟨#[114]⟩) [.string ⟨#[113]⟩, u2, v2])) (hW : W' = W.alloc (.cells #[.string ⟨#[112]⟩, u1, v1, .string ⟨#[113]⟩, u2, v2] 64)) :
    Calls Try.prog 29 #[.agg #[.slice none 0 0, .slice (some ⟨W.heap.size, 0, none⟩) 2 2]] W' fun e w' => ∃ (A B : Option Addr) (c d : Nat), e = .returned (.tuple #[.slice A 3 c, .slice B 0 d, .int .i64 0]) ∧ Aside0 (Kd.C (Kd.int .i64) w' A 3 [1, 0, 0] ∧ 3 ≤ c) ∧ Aside0 (Below W.heap.size W w') := by
  subst hW
  have hb := below_alloc (Below.refl W.heap.size W) (.cells #[.string ⟨#[112]⟩, u1, v1, .string ⟨#[113]⟩, u2, v2] 64)
  have hc : Kd.C k64 (W.alloc (.cells #[.string ⟨#[112]⟩, u1, v1, .string ⟨#[113]⟩, u2, v2] 64)) (some ⟨W.heap.size, 0, none⟩) 2 ex11a := C_cells (blk_new W _) (Reps.snoc (Reps.snoc (Reps.none _ _) (Kd.K_below _ hb h1.out) rfl) (Kd.K_below _ hb h2.out) rfl) (by decide)
  refine (strata_Of.calls K none 0 [] (some ⟨W.heap.size, 0, none⟩) 2 ex11a _ _ _ _ (Kd.C_nil _ _) (Nat.le_refl 0) hc (Nat.le_refl 2) hk.out).mono ?_
  rintro e w' ⟨x, y, rfl, hx, hy, hb'⟩
  obtain ⟨A, c, rfl, l, g⟩ := Kd.R_reads hx
  obtain ⟨B, d, rfl, l', g'⟩ := Kd.R_reads hy
  exact ⟨A, B, c, d, rfl, ⟨g, l⟩, ⟨Below.then hb hb'⟩⟩
theorem sh11_b (K : Nat) (hk : Aside0 (strata_Of.f K [] ex11b = some ([], [⟨#[112]⟩, ⟨#[112]⟩], 7))) (W W' : World) (u1 v1 : Value) (h1 : Aside0 (k64.K W (rl11 ⟨#[112]⟩ 2 ⟨#[112]⟩) [.string ⟨#[112]⟩, u1, v1])) (hW : W' = W.alloc (.cells #[.string ⟨#[112]⟩, u1, v1] 64)) :
    Calls Try.prog 29 #[.agg #[.slice none 0 0, .slice (some ⟨W.heap.size, 0, none⟩) 1 1]] W' fun e w' => ∃ (A B : Option Addr) (c d : Nat), e = .returned (.tuple #[.slice A 0 c, .slice B 2 d, .int .i64 7]) ∧ Aside0 (Kd.C Kd.string w' B 2 [⟨#[112]⟩, ⟨#[112]⟩] ∧ 2 ≤ d) ∧ Aside0 (Below W.heap.size W w') := by
  subst hW
  have hb := below_alloc (Below.refl W.heap.size W) (.cells #[.string ⟨#[112]⟩, u1, v1] 64)
  have hc : Kd.C k64 (W.alloc (.cells #[.string ⟨#[112]⟩, u1, v1] 64)) (some ⟨W.heap.size, 0, none⟩) 1 ex11b := C_cells (blk_new W _) (Reps.snoc (Reps.none _ _) (Kd.K_below _ hb h1.out) rfl) (by decide)
  refine (strata_Of.calls K none 0 [] (some ⟨W.heap.size, 0, none⟩) 1 ex11b _ _ _ _ (Kd.C_nil _ _) (Nat.le_refl 0) hc (Nat.le_refl 1) hk.out).mono ?_
  rintro e w' ⟨x, y, rfl, hx, hy, hb'⟩
  obtain ⟨A, c, rfl, l, g⟩ := Kd.R_reads hx
  obtain ⟨B, d, rfl, l', g'⟩ := Kd.R_reads hy
  exact ⟨A, B, c, d, rfl, ⟨g', l'⟩, ⟨Below.then hb hb'⟩⟩
set_option maxRecDepth 100000 in
set_option maxHeartbeats 4000000 in
theorem lambrequinlaw11_shown.calls (k : Nat) (r : Bool) (w : World) (h : lambrequinlaw11_shown.f k = some r) :
    Calls Try.prog 27 #[] w fun e w' => e = .returned (.bool r) ∧ Below w.heap.size w w' := by
  unfold lambrequinlaw11_shown.f at h
  obtain ⟨x, hx, h1⟩ := Option.bind_eq_some_iff.1 h
  obtain ⟨y, hy, h2⟩ := Option.bind_eq_some_iff.1 h1
  clear h h1
  split at h2
  case isFalse => cases h2
  rename_i hxy
  obtain ⟨rfl, rfl⟩ := hxy
  obtain rfl := Option.some.inj h2
  clear h2
  obtain ⟨K1, hi⟩ := Ev.rounds (g := fun k => lambrequinref10_Ints.f k [1, 0, 0] [1, 0, 0]) (Ints_refl [1, 0, 0] (by decide))
  have HI := Aside0.mk hi
  have hs : ∃ K2, lambrequinref09_Same.f K2 [⟨#[112]⟩, ⟨#[112]⟩] [⟨#[112]⟩, ⟨#[112]⟩] = some true := ⟨5, by first | kernel_rfl | decide +kernel | (simp [lambrequinref09_Same.f, lambrequinref09_Same.l0, rdOf, wrap64])⟩
  obtain ⟨K2, hs⟩ := hs
  have HS := Aside0.mk hs
  have HX := Aside0.mk hx
  have HY := Aside0.mk hy
  clear hi hs hx hy
  have hu1 := Try.underlying50
  have hu2 := Try.underlying64
  go_enter Try.func27, Try.ntmps27
  go_wp2_with (first
    | (go_at_call 50; (first
      | ((with_reducible refine (sh11_rule ⟨#[112]⟩ 2 ⟨#[113]⟩ _).mono ?_); rintro e w1 ⟨u1, v1, rfl, F1, B1⟩)
      | ((with_reducible refine (sh11_rule ⟨#[113]⟩ 1 ⟨#[114]⟩ _).mono ?_); rintro e w2 ⟨u2, v2, rfl, F2, B2⟩; replace F1 := keep11 F1 B2)
      | ((with_reducible refine (sh11_rule ⟨#[112]⟩ 2 ⟨#[112]⟩ _).mono ?_); rintro e w4 ⟨u3, v3, rfl, F4, B4⟩; replace F3 := keepI11 F3 B4)))
    | (go_at_call 29; (first
      | ((with_reducible refine (sh11_a k HX w2 _ u1 v1 u2 v2 F1 F2 rfl).mono ?_); rintro e w3 ⟨A, A', c, c', rfl, F3, B3⟩)
      | ((with_reducible refine (sh11_b k HY w4 _ u3 v3 F4 rfl).mono ?_); rintro e w5 ⟨D, D', d, d', rfl, F5, B5⟩; replace F3 := keepI11 F3 B5)))
    | (go_at_call 19; go_must (refine (lambrequinref10_Ints.calls K1 _ _ [1, 0, 0] _ _ [1, 0, 0] true _ (Kd.C_alloc F3.out.1 _) F3.out.2 (C_cells (blk_new w5 _) (Kd.reps_scalar [1, 0, 0]) (by decide)) (by decide) HI.out).mono ?_); rintro e w6 ⟨rfl, b6⟩; have F6 := Aside0.mk (Kd.C_below (Kd.C_alloc F5.out.1 _) b6.below); have B6 : Aside0 (Below w5.heap.size w5 w6) := ⟨Below.then (below_alloc (Below.refl _ _) _) b6.below⟩; clear b6)
    | (go_at_call 31; go_must (refine (lambrequinref09_Same.calls K2 _ _ [⟨#[112]⟩, ⟨#[112]⟩] _ _ [⟨#[112]⟩, ⟨#[112]⟩] true _ (Kd.C_alloc F6.out _) F5.out.2 (C_cells (blk_new w6 _) (rep11 _) (by decide)) (by decide) HS.out).mono ?_); rintro e w7 ⟨rfl, b7⟩; have B7 : Aside0 (Below w6.heap.size w6 w7) := ⟨Below.then (below_alloc (Below.refl _ _) _) b7.below⟩; clear b7))
  go_ret
  exact ⟨rfl, Below.then B1.out (Below.then B2.out (Below.then B3.out (Below.then B4.out (Below.then B5.out (Below.then B6.out B7.out)))))⟩
end Go.Proofs.Ytmlhnjonmjmhdaa.H
namespace Go.Proofs.Ytmlhnjonmjmhdaa.H
open Go.RowKit Go.Proofs.YtmlhnjonmjmhdaaW.PrintWords
/-- no longer than the model's longest text -/
def bStr (s : ByteArray) : Prop := s.size ≤ 9223372036854775807
/-- What an argument of a type holds, read as the kind kd; B: how long its texts are. -/
structure Opens {α : Type} (P : Program) (t : TypeId) (kd : Kd α) (B : α → Prop) : Prop where
  size : P.cellsOf t = kd.sz
  opened : ∀ {H : Type} {enc : TypeId × Value → H} {w : World} {base : Nat} {sp : Nat → Bool} {held : Bool} {fuel : Nat} {cs : List Value} {x : DataW H × List MemPlace},
    DataW.trod enc P w base sp held fuel t cs = some x → ∃ a, kd.K w a cs ∧ B a
theorem Opens.as {α : Type} {P : Program} {t : TypeId} {kd : Kd α} {B B' : α → Prop} (h : Opens P t kd B) (hB : ∀ a, B a → B' a) : Opens P t kd B' :=
  ⟨h.size, fun hx => by obtain ⟨a, ha, hb⟩ := h.opened hx; exact ⟨a, ha, hB a hb⟩⟩
theorem opens_bool {P : Program} {t : TypeId} (ht : P.underlying t = some .bool) (hs : P.cellsOf t = 1) : Opens P t Kd.bool (fun _ => True) :=
  ⟨hs, fun h => by obtain ⟨b, rfl, _⟩ := DataW.trod_bool ht h; exact ⟨b, rfl, trivial⟩⟩
theorem opens_int {P : Program} {t : TypeId} {k : IntKind} (ht : P.underlying t = some (.int k)) (hs : P.cellsOf t = 1) : Opens P t (Kd.int k) (fun _ => True) :=
  ⟨hs, fun h => by obtain ⟨b, rfl, _⟩ := DataW.trod_int ht h; exact ⟨b, rfl, trivial⟩⟩
theorem opens_string {P : Program} {t : TypeId} (ht : P.underlying t = some .string) (hs : P.cellsOf t = 1) : Opens P t Kd.string bStr :=
  ⟨hs, fun h => by obtain ⟨b, rfl, _, hb⟩ := DataW.trod_string ht h; exact ⟨b, rfl, hb⟩⟩
theorem list_of {α : Type} (p : Nat → α → Prop) : ∀ n : Nat, (∀ i, i < n → ∃ y, p i y) → ∃ l : List α, l.length = n ∧ ∀ i y, l[i]? = some y → p i y
  | 0, _ => ⟨[], rfl, fun i y h => by simp at h⟩
  | n + 1, h => by
    obtain ⟨l, hl, hp⟩ := list_of p n (fun i hi => h i (by omega))
    obtain ⟨y, hy⟩ := h n (by omega)
    refine ⟨l ++ [y], by simp [hl], fun i z hz => ?_⟩
    rcases Nat.lt_trichotomy i n with hi | rfl | hi
    · rw [List.getElem?_append_left (by omega)] at hz
      exact hp i z hz
    · rw [List.getElem?_append_right (by omega), hl, Nat.sub_self] at hz
      simp at hz
      subst hz
      exact hy
    · rw [List.getElem?_eq_none (by simp [hl]; omega)] at hz
      simp at hz
theorem addr_add_add (a : Addr) (i j : Nat) : (a.add i).add j = a.add (i + j) := by
  unfold Addr.add
  by_cases hi : i = 0 <;> by_cases hj : j = 0 <;> simp [hi, hj, Nat.add_assoc]
theorem opens_slice {α : Type} {P : Program} {t e : TypeId} {kd : Kd α} {B : α → Prop} (ht : P.underlying t = some (.slice e)) (hs : P.cellsOf t = 1) (he : Opens P e kd B) (q : Nat) : Opens P t (Kd.slice q kd) (fun l => l.length ≤ 9223372036854775807 ∧ ∀ y ∈ l, B y) := by
  refine ⟨hs, fun {H enc w base sp held fuel cs x} h => ?_⟩
  rcases DataW.trod_slice ht h with ⟨rfl, _⟩ | ⟨a, len, cap, elems, rest, n, _, rfl, _, _, hl, hm, hlen, hel, _⟩
  · exact ⟨[], ⟨none, 0, rfl, Nat.le_refl _, rfl, by simp, fun h => absurd h (by simp)⟩, by simp, by simp⟩
  · obtain ⟨l, hll, hp⟩ := list_of (fun i y => B y ∧ ∃ c, c.length = kd.sz ∧ kd.K w y c ∧ ∀ j u, c[j]? = some u → w.cell? (a.add (i * kd.sz + j)) = some u) len (fun i hi => by
      have h1 := hel i hi
      rw [List.getElem?_eq_getElem (by omega)] at h1
      obtain ⟨cs', h2, h3⟩ := Option.bind_eq_some_iff.1 h1
      obtain ⟨y, hy, hby⟩ := he.opened h3
      obtain ⟨_, h4, h5⟩ := World.cells?_some h2
      refine ⟨y, hby, cs', by rw [h4, he.size], hy, fun j u hu => ?_⟩
      have hj : j < P.cellsOf e := by rw [← h4]; exact (List.getElem?_eq_some_iff.1 hu).1
      rw [← addr_add_add, ← he.size, h5 j hj, hu])
    subst hll
    refine ⟨l, ⟨some a, cap, rfl, hl, rfl, Nat.le_trans hl (Nat.le_trans hm (by decide)), fun _ => ⟨a, rfl, fun j p hj => (hp j p hj).2⟩⟩, Nat.le_trans hl (Nat.le_trans hm (by decide)), fun y hy => ?_⟩
    obtain ⟨i, hi, rfl⟩ := List.mem_iff_getElem.1 hy
    exact (hp i _ (List.getElem?_eq_getElem hi)).1
theorem opens_iso {α β : Type} {P : Program} {t : TypeId} {kd : Kd α} {B : α → Prop} (h : Opens P t kd B) (f : β → α) (hf : ∀ b, ∃ a, f a = b) : Opens P t (Kd.iso kd f) (fun b => B (f b)) :=
  ⟨h.size, fun hx => by obtain ⟨a, ha⟩ := h.opened hx; obtain ⟨b, rfl⟩ := hf a; exact ⟨b, ha⟩⟩
/-- The fields of a struct from the offset o on. -/
structure OpensL {α : Type} (P : Program) (fs : List Field) (o : Nat) (kd : Kd α) (B : α → Prop) : Prop where
  opened : ∀ {H : Type} {enc : TypeId × Value → H} {w : World} {base : Nat} {sp : Nat → Bool} {held : Bool} {fuel : Nat} (cs : List Value), cs.length = o + kd.sz →
    (∀ f ∈ fs, ∃ x, DataW.trod enc P w base sp held fuel f.type ((cs.drop f.offset).take (P.cellsOf f.type)) = some x) → ∃ a, kd.K w a (cs.drop o) ∧ B a
theorem opensL_one {α : Type} {P : Program} {f : Field} {o : Nat} {kd : Kd α} {B : α → Prop} (ho : f.offset = o) (h : Opens P f.type kd B) : OpensL P [f] o kd B := by
  refine ⟨fun {H enc w base sp held fuel} cs hcs hf => ?_⟩
  obtain ⟨x, hx⟩ := hf f (by simp)
  obtain ⟨a, ha, hb⟩ := h.opened hx
  rw [ho, h.size, List.take_of_length_le (by simp [hcs])] at ha
  exact ⟨a, ha, hb⟩
theorem opensL_cons {α β : Type} {P : Program} {f : Field} {fs : List Field} {o : Nat} {kd : Kd α} {kd' : Kd β} {B : α → Prop} {B' : β → Prop} (ho : f.offset = o) (h : Opens P f.type kd B) (hr : OpensL P fs (o + kd.sz) kd' B') : OpensL P (f :: fs) o (Kd.pair kd kd') (fun p => B p.1 ∧ B' p.2) := by
  refine ⟨fun {H enc w base sp held fuel} cs hcs hf => ?_⟩
  obtain ⟨x, hx⟩ := hf f (by simp)
  obtain ⟨a, ha, hba⟩ := h.opened hx
  have hcs' : cs.length = o + kd.sz + kd'.sz := by rw [hcs]; show o + (kd.sz + kd'.sz) = _; omega
  obtain ⟨b, hb, hbb⟩ := hr.opened cs hcs' (fun g hg => hf g (by simp [hg]))
  rw [ho, h.size] at ha
  refine ⟨(a, b), ⟨(cs.drop o).take kd.sz, (cs.drop (o + kd.sz)), ?_, ha, hb⟩, hba, hbb⟩
  rw [← List.drop_drop, List.take_append_drop]
theorem opens_struct {α : Type} {P : Program} {t : TypeId} {fs : List Field} {kd : Kd α} {B : α → Prop} (ht : P.underlying t = some (.struct ⟨fs⟩)) (hs : P.cellsOf t = kd.sz) (h : OpensL P fs 0 kd B) : Opens P t kd B := by
  refine ⟨hs, fun {H enc w base sp held fuel cs x} hx => ?_⟩
  obtain ⟨xs, n, _, _, hl, hlen, hf⟩ := DataW.trod_struct ht hx
  obtain ⟨a, ha, hb⟩ := h.opened (enc := enc) (w := w) (base := base) (sp := sp) (held := held) (fuel := n) cs (by rw [hl, hs]; omega) (fun f hfm => by
    obtain ⟨i, hi, rfl⟩ := List.mem_iff_getElem.1 hfm
    have h1 := hf i fs[i] (by simp [hi])
    exact ⟨xs[i]'(by rw [hlen]; simpa using hi), by rw [h1, List.getElem?_eq_getElem]⟩)
  exact ⟨a, by simpa using ha, hb⟩
/-- an array of two numbers -/
theorem opens_arr2 {P : Program} {t e : TypeId} {k : IntKind} (ht : P.underlying t = some (.array 2 e)) (hu : P.underlying e = some (.int k)) (hs : P.cellsOf t = 2) (he : P.cellsOf e = 1) :
    Opens P t (Kd.pair (Kd.int k) (Kd.int k)) (fun p => (Lit.int k p.1).wf = true ∧ (Lit.int k p.2).wf = true) := by
  refine ⟨hs, fun {H enc w base sp held fuel cs x} hx => ?_⟩
  obtain ⟨xs, m, _, _, hl, hlen, hel⟩ := DataW.trod_array ht hx
  rw [hs] at hl
  match cs, hl with
  | [c0, c1], _ =>
    match xs, hlen with
    | [x0, x1], _ =>
      have h0 := hel 0 (by decide)
      have h1 := hel 1 (by decide)
      rw [he] at h0 h1
      obtain ⟨a, ea, _, wa⟩ := DataW.trod_int hu (show DataW.trod enc P w base sp held m e [c0] = some x0 from h0)
      obtain ⟨b, eb, _, wb⟩ := DataW.trod_int hu (show DataW.trod enc P w base sp held m e [c1] = some x1 from h1)
      cases ea; cases eb
      exact ⟨(a, b), ⟨[.int k a], [.int k b], rfl, rfl, rfl⟩, wa, wb⟩
theorem okWide_array {P : Program} {w : World} {r : Reach} {base : Nat} {t e : TypeId} {n : Nat} {v : Value} (ht : P.underlying t = some (.array n e)) (h : Value.okWide P w r base t v) : ∃ cs, v = .agg cs ∧ cs.size = P.cellsOf t := by
  simp only [Value.okWide, ht] at h
  obtain ⟨cs, h1, h2, _⟩ := h
  exact ⟨cs, h1, h2⟩
theorem opens_isoL {α β : Type} {P : Program} {fs : List Field} {o : Nat} {kd : Kd α} {B : α → Prop} (h : OpensL P fs o kd B) (f : β → α) (hf : ∀ b, ∃ a, f a = b) : OpensL P fs o (Kd.iso kd f) (fun b => B (f b)) := by
  refine ⟨fun {H enc w base sp held fuel} cs hcs hx => ?_⟩
  obtain ⟨a, ha⟩ := h.opened cs hcs hx
  obtain ⟨b, rfl⟩ := hf a
  exact ⟨b, ha⟩
/-- an argument's value, opened -/
theorem Opens.argB {α : Type} {P : Program} {t : TypeId} {kd : Kd α} {B : α → Prop} (h : Opens P t kd B) {H : Type} {enc : TypeId × Value → H} {w : World} {base : Nat} {sp : Nat → Bool} {held : Bool} {v : Value} {d : DataW H} {ps : List MemPlace}
    (hv : DataW.Trod enc P w base sp held t v d ps) : ∃ a, kd.K w a v.cells.toList ∧ B a := by
  obtain ⟨fuel, hf⟩ := hv
  exact h.opened hf
theorem Opens.arg {α : Type} {P : Program} {t : TypeId} {kd : Kd α} {B : α → Prop} (h : Opens P t kd B) {H : Type} {enc : TypeId × Value → H} {w : World} {base : Nat} {sp : Nat → Bool} {held : Bool} {v : Value} {d : DataW H} {ps : List MemPlace}
    (hv : DataW.Trod enc P w base sp held t v d ps) : ∃ a, kd.K w a v.cells.toList := by
  obtain ⟨a, ha, _⟩ := h.argB hv
  exact ⟨a, ha⟩
/-- An argument's row is no longer than its weight allows. -/
theorem sized_row {H : Type} {enc : TypeId × Value → H} {P : Program} {W : World} {base : Nat} {spare : Nat → Bool} {held : Bool} {t e : TypeId} {a : Option Addr} {len cap : Nat} {d : DataW H} {ps : List MemPlace} {ts : List TypeId} {ds : List (DataW H)} {j : Nat}
    (hsz : (DataW.weightsEach P ts ds).all (· ≤ reachBytes) = true) (ht : ts[j]? = some t) (hd : ds[j]? = some d) (hu : P.underlying t = some (.slice e)) {B : Nat} (hB : P.bytesOf e = B)
    (h : DataW.Trod enc P W base spare held t (.slice a len cap) d ps) : len * B ≤ 140737488351232 := by
  obtain ⟨fuel, hf⟩ := h
  rcases DataW.trod_slice hu hf with ⟨hcs, _⟩ | ⟨x, l, c, elems, rest, n, _, hcs, hx, _, hl, _, hlen, _⟩
  · simp [Value.cells] at hcs
    obtain ⟨rfl, rfl, rfl⟩ := hcs
    simp
  · simp [Value.cells] at hcs
    obtain ⟨rfl, rfl, rfl⟩ := hcs
    obtain ⟨rfl, _⟩ := Prod.mk.inj hx
    have z := sized_slice hsz ht hd hu
    rw [hB, List.length_map, List.length_map, hlen] at z
    exact Nat.le_trans (Nat.mul_le_mul_right _ (Nat.le_add_right _ _)) z
def bVal (x : Val) : Prop := True ∧ bStr (x.sym) ∧ True
theorem opens_Val : Opens Try.prog 67 k67 bVal :=
  Opens.as (opens_struct Try.underlying67 (by kernel_rfl) (opens_isoL (opensL_cons rfl (opens_bool (by kernel_rfl) (by kernel_rfl)) (opensL_cons rfl (opens_string (by kernel_rfl) (by kernel_rfl)) (opensL_one rfl (opens_int (by kernel_rfl) (by kernel_rfl))))) _ (fun b => ⟨⟨b.1, b.2.1, b.2.2⟩, rfl⟩))) (fun _ h => h)
def bTerm (x : Term) : Prop := True ∧ bStr (x.name) ∧ bVal (x.val)
theorem opens_Term : Opens Try.prog 69 k69 bTerm :=
  Opens.as (opens_struct Try.underlying69 (by kernel_rfl) (opens_isoL (opensL_cons rfl (opens_bool (by kernel_rfl) (by kernel_rfl)) (opensL_cons rfl (opens_string (by kernel_rfl) (by kernel_rfl)) (opensL_one rfl opens_Val))) _ (fun b => ⟨⟨b.1, b.2.1, b.2.2⟩, rfl⟩))) (fun _ h => h)
def bAtom (x : Atom) : Prop := bStr (x.pred) ∧ (x.args.length ≤ 9223372036854775807 ∧ ∀ y ∈ x.args, bTerm (y))
theorem opens_Atom : Opens Try.prog 61 k61 bAtom :=
  Opens.as (opens_struct Try.underlying61 (by kernel_rfl) (opens_isoL (opensL_cons rfl (opens_string (by kernel_rfl) (by kernel_rfl)) (opensL_one rfl (opens_slice (by kernel_rfl) (by kernel_rfl) opens_Term 69))) _ (fun b => ⟨⟨b.1, b.2⟩, rfl⟩))) (fun _ h => h)
def bLiter (x : Liter) : Prop := True ∧ bAtom (x.atom) ∧ bStr (x.op) ∧ bTerm (x.l) ∧ bTerm (x.r)
theorem opens_Liter : Opens Try.prog 71 k71 bLiter :=
  Opens.as (opens_struct Try.underlying71 (by kernel_rfl) (opens_isoL (opensL_cons rfl (opens_int (by kernel_rfl) (by kernel_rfl)) (opensL_cons rfl opens_Atom (opensL_cons rfl (opens_string (by kernel_rfl) (by kernel_rfl)) (opensL_cons rfl opens_Term (opensL_one rfl opens_Term))))) _ (fun b => ⟨⟨b.1, b.2.1, b.2.2.1, b.2.2.2.1, b.2.2.2.2⟩, rfl⟩))) (fun _ h => h)
def bRule (x : Rule) : Prop := bAtom (x.head) ∧ (x.body.length ≤ 9223372036854775807 ∧ ∀ y ∈ x.body, bLiter (y))
theorem opens_Rule : Opens Try.prog 64 k64 bRule :=
  Opens.as (opens_struct Try.underlying64 (by kernel_rfl) (opens_isoL (opensL_cons rfl opens_Atom (opensL_one rfl (opens_slice (by kernel_rfl) (by kernel_rfl) opens_Liter 71))) _ (fun b => ⟨⟨b.1, b.2⟩, rfl⟩))) (fun _ h => h)
def bDecl (x : Decl) : Prop := bStr (x.pred) ∧ True
theorem opens_Decl : Opens Try.prog 96 k96 bDecl :=
  Opens.as (opens_struct Try.underlying96 (by kernel_rfl) (opens_isoL (opensL_cons rfl (opens_string (by kernel_rfl) (by kernel_rfl)) (opensL_one rfl (opens_int (by kernel_rfl) (by kernel_rfl)))) _ (fun b => ⟨⟨b.1, b.2⟩, rfl⟩))) (fun _ h => h)
def bProg (x : Prog) : Prop := (x.decls.length ≤ 9223372036854775807 ∧ ∀ y ∈ x.decls, bDecl (y)) ∧ (x.rules.length ≤ 9223372036854775807 ∧ ∀ y ∈ x.rules, bRule (y))
theorem opens_Prog : Opens Try.prog 50 k50 bProg :=
  Opens.as (opens_struct Try.underlying50 (by kernel_rfl) (opens_isoL (opensL_cons rfl (opens_slice (by kernel_rfl) (by kernel_rfl) opens_Decl 96) (opensL_one rfl (opens_slice (by kernel_rfl) (by kernel_rfl) opens_Rule 64))) _ (fun b => ⟨⟨b.1, b.2⟩, rfl⟩))) (fun _ h => h)
def bIPair (x : IPair) : Prop := (Lit.int .i64 x.fst).wf = true ∧ (Lit.int .i64 x.snd).wf = true
theorem opens_IPair : Opens Try.prog 27 k27 bIPair :=
  Opens.as (opens_iso (opens_arr2 Try.underlying27 Try.underlying3 (by kernel_rfl) (by kernel_rfl)) _ (fun b => ⟨⟨b.1, b.2⟩, rfl⟩)) (fun _ h => h)
def bBPair (x : BPair) : Prop := (Lit.int .u8 x.fst).wf = true ∧ (Lit.int .u8 x.snd).wf = true
theorem opens_BPair : Opens Try.prog 45 k45 bBPair :=
  Opens.as (opens_iso (opens_arr2 Try.underlying45 Try.underlying5 (by kernel_rfl) (by kernel_rfl)) _ (fun b => ⟨⟨b.1, b.2⟩, rfl⟩)) (fun _ h => h)
end Go.Proofs.Ytmlhnjonmjmhdaa.H
/- what an argument of bounded bulk holds ('..UptoSaid') -/
namespace Go.Proofs.Ytmlhnjonmjmhdaa.H
open Go.RowKit Go.Proofs.YtmlhnjonmjmhdaaW.PrintWords
open Go.Proofs.Ytmlhnjonmjmhdaa.Rows (uptoBulk uptoBulkAll)
theorem bulkAll_sum {H : Type} : ∀ l : List (DataW H), uptoBulkAll l = (l.map uptoBulk).sum
  | [] => by simp [uptoBulkAll]
  | d :: r => by simp [uptoBulkAll, bulkAll_sum r]
theorem sum_le_of {α β : Type} (f : α → Nat) (g : β → Nat) : ∀ (l : List α) (m : List β), l.length = m.length → (∀ (i : Nat) y e, l[i]? = some y → m[i]? = some e → f y ≤ g e) → (l.map f).sum ≤ (m.map g).sum
  | [], _, _, _ => by simp
  | _ :: _, [], h, _ => by simp at h
  | y :: l, e :: m, h, hp => by
    rw [List.map_cons, List.map_cons, List.sum_cons, List.sum_cons]
    exact Nat.add_le_add (hp 0 y e rfl rfl) (sum_le_of f g l m (by simpa using h) (fun i y' e' h1 h2 => hp (i + 1) y' e' (by simpa using h1) (by simpa using h2)))
structure OpensU {α : Type} (P : Program) (t : TypeId) (kd : Kd α) (sz : α → Nat) : Prop where
  size : P.cellsOf t = kd.sz
  opened : ∀ {H : Type} {enc : TypeId × Value → H} {w : World} {base : Nat} {sp : Nat → Bool} {held : Bool} {fuel : Nat} {cs : List Value} {x : DataW H × List MemPlace},
    DataW.trod enc P w base sp held fuel t cs = some x → ∃ a, kd.K w a cs ∧ sz a ≤ uptoBulk x.1
theorem OpensU.as {α : Type} {P : Program} {t : TypeId} {kd : Kd α} {sz sz' : α → Nat} (h : OpensU P t kd sz) (hs : ∀ a, sz' a ≤ sz a) : OpensU P t kd sz' :=
  ⟨h.size, fun hx => by obtain ⟨a, ha, hb⟩ := h.opened hx; exact ⟨a, ha, Nat.le_trans (hs a) hb⟩⟩
theorem opensU_bool {P : Program} {t : TypeId} (ht : P.underlying t = some .bool) (hs : P.cellsOf t = 1) : OpensU P t Kd.bool (fun _ => 1) :=
  ⟨hs, fun h => by obtain ⟨b, rfl, rfl⟩ := DataW.trod_bool ht h; exact ⟨b, rfl, by simp [uptoBulk]⟩⟩
theorem opensU_int {P : Program} {t : TypeId} {k : IntKind} (ht : P.underlying t = some (.int k)) (hs : P.cellsOf t = 1) : OpensU P t (Kd.int k) (fun _ => 1) :=
  ⟨hs, fun h => by obtain ⟨b, rfl, rfl, _⟩ := DataW.trod_int ht h; exact ⟨b, rfl, by simp [uptoBulk]⟩⟩
/-- a number: of size 1, were it none of its kind: greater than any bound -/
def szB (k : IntKind) (v : Int) : Nat := if (Lit.int k v).wf = true then 1 else 1048577
theorem szB_ge (k : IntKind) (v : Int) : 1 ≤ szB k v := by unfold szB; split <;> omega
theorem szB_wf {k : IntKind} {v : Int} (h : szB k v ≤ 1048576) : (Lit.int k v).wf = true := by
  unfold szB at h
  split at h
  · assumption
  · omega
theorem opensU_intB {P : Program} {t : TypeId} {k : IntKind} (ht : P.underlying t = some (.int k)) (hs : P.cellsOf t = 1) : OpensU P t (Kd.int k) (szB k) :=
  ⟨hs, fun h => by obtain ⟨b, rfl, rfl, hw⟩ := DataW.trod_int ht h; exact ⟨b, rfl, by unfold szB; rw [if_pos hw]; simp [uptoBulk]⟩⟩
theorem opensU_string {P : Program} {t : TypeId} (ht : P.underlying t = some .string) (hs : P.cellsOf t = 1) : OpensU P t Kd.string (fun s => s.size + 1) :=
  ⟨hs, fun h => by obtain ⟨b, rfl, rfl, hb⟩ := DataW.trod_string ht h; exact ⟨b, rfl, by simp [uptoBulk]⟩⟩
theorem opensU_slice {α : Type} {P : Program} {t e : TypeId} {kd : Kd α} {sz : α → Nat} (ht : P.underlying t = some (.slice e)) (hs : P.cellsOf t = 1) (he : OpensU P e kd sz) (q : Nat) : OpensU P t (Kd.slice q kd) (fun l => (l.map sz).sum + 1) := by
  refine ⟨hs, fun {H enc w base sp held fuel cs x} h => ?_⟩
  rcases DataW.trod_slice ht h with ⟨rfl, hx⟩ | ⟨a, len, cap, elems, rest, n, _, rfl, hx, _, hl, hm, hlen, hel, _⟩
  · exact ⟨[], ⟨none, 0, rfl, Nat.le_refl _, rfl, by simp, fun h => absurd h (by simp)⟩, by rw [hx]; simp [uptoBulk]⟩
  · obtain ⟨l, hll, hp⟩ := list_of (fun i y => (∀ d, elems[i]? = some d → sz y ≤ uptoBulk d.1) ∧ ∃ c, c.length = kd.sz ∧ kd.K w y c ∧ ∀ j u, c[j]? = some u → w.cell? (a.add (i * kd.sz + j)) = some u) len (fun i hi => by
      have h1 := hel i hi
      rw [List.getElem?_eq_getElem (by omega)] at h1
      obtain ⟨cs', h2, h3⟩ := Option.bind_eq_some_iff.1 h1
      obtain ⟨y, hy, hby⟩ := he.opened h3
      obtain ⟨_, h4, h5⟩ := World.cells?_some h2
      refine ⟨y, fun d hd => ?_, cs', by rw [h4, he.size], hy, fun j u hu => ?_⟩
      · rw [List.getElem?_eq_getElem (by omega)] at hd
        rw [← Option.some.inj hd]
        exact hby
      · have hj : j < P.cellsOf e := by rw [← h4]; exact (List.getElem?_eq_some_iff.1 hu).1
        rw [← addr_add_add, ← he.size, h5 j hj, hu])
    subst hll
    refine ⟨l, ⟨some a, cap, rfl, hl, rfl, Nat.le_trans hl (Nat.le_trans hm (by decide)), fun _ => ⟨a, rfl, fun j p hj => (hp j p hj).2⟩⟩, ?_⟩
    rw [hx]
    show (l.map sz).sum + 1 ≤ uptoBulkAll (elems.map (·.1)) + uptoBulkAll (rest.map (·.1)) + 1
    rw [bulkAll_sum, List.map_map]
    have := sum_le_of sz (uptoBulk ∘ fun (x : DataW H × List MemPlace) => x.1) l elems (by omega) (fun i y d h1 h2 => (hp i y h1).1 d h2)
    omega
structure OpensLU {α : Type} (P : Program) (fs : List Field) (o : Nat) (kd : Kd α) (sz : α → Nat) : Prop where
  opened : ∀ {H : Type} {enc : TypeId × Value → H} {w : World} {base : Nat} {sp : Nat → Bool} {held : Bool} {fuel : Nat} (cs : List Value) (xs : List (DataW H × List MemPlace)), cs.length = o + kd.sz → xs.length = fs.length →
    (∀ (i : Nat) f, fs[i]? = some f → DataW.trod enc P w base sp held fuel f.type ((cs.drop f.offset).take (P.cellsOf f.type)) = xs[i]?) → ∃ a, kd.K w a (cs.drop o) ∧ sz a ≤ (xs.map fun x => uptoBulk x.1).sum
theorem opensLU_one {α : Type} {P : Program} {f : Field} {o : Nat} {kd : Kd α} {sz : α → Nat} (ho : f.offset = o) (h : OpensU P f.type kd sz) : OpensLU P [f] o kd sz := by
  refine ⟨fun {H enc w base sp held fuel} cs xs hcs hxs hf => ?_⟩
  match xs, hxs with
  | [x], _ =>
    have hx := hf 0 f rfl
    obtain ⟨a, ha, hb⟩ := h.opened (show DataW.trod enc P w base sp held fuel f.type ((cs.drop f.offset).take (P.cellsOf f.type)) = some x from hx)
    rw [ho, h.size, List.take_of_length_le (by simp [hcs])] at ha
    exact ⟨a, ha, by simpa using hb⟩
theorem opensLU_cons {α β : Type} {P : Program} {f : Field} {fs : List Field} {o : Nat} {kd : Kd α} {kd' : Kd β} {sz : α → Nat} {sz' : β → Nat} (ho : f.offset = o) (h : OpensU P f.type kd sz) (hr : OpensLU P fs (o + kd.sz) kd' sz') : OpensLU P (f :: fs) o (Kd.pair kd kd') (fun p => sz p.1 + sz' p.2) := by
  refine ⟨fun {H enc w base sp held fuel} cs xs hcs hxs hf => ?_⟩
  match xs, hxs with
  | x :: xs, hxs =>
    have hx := hf 0 f rfl
    obtain ⟨a, ha, hba⟩ := h.opened (show DataW.trod enc P w base sp held fuel f.type ((cs.drop f.offset).take (P.cellsOf f.type)) = some x from hx)
    have hcs' : cs.length = o + kd.sz + kd'.sz := by rw [hcs]; show o + (kd.sz + kd'.sz) = _; omega
    obtain ⟨b, hb, hbb⟩ := hr.opened cs xs hcs' (by simpa using hxs) (fun i g hg => by have := hf (i + 1) g (by simpa using hg); simpa using this)
    rw [ho, h.size] at ha
    refine ⟨(a, b), ⟨(cs.drop o).take kd.sz, (cs.drop (o + kd.sz)), ?_, ha, hb⟩, ?_⟩
    · rw [← List.drop_drop, List.take_append_drop]
    · rw [List.map_cons, List.sum_cons]
      exact Nat.add_le_add hba hbb
theorem opensU_struct {α : Type} {P : Program} {t : TypeId} {fs : List Field} {kd : Kd α} {sz : α → Nat} (ht : P.underlying t = some (.struct ⟨fs⟩)) (hs : P.cellsOf t = kd.sz) (h : OpensLU P fs 0 kd sz) : OpensU P t kd (fun a => sz a + 1) := by
  refine ⟨hs, fun {H enc w base sp held fuel cs x} hx => ?_⟩
  obtain ⟨xs, n, _, he, hl, hlen, hf⟩ := DataW.trod_struct ht hx
  obtain ⟨a, ha, hb⟩ := h.opened (enc := enc) (w := w) (base := base) (sp := sp) (held := held) (fuel := n) cs xs (by rw [hl, hs]; omega) (by simpa using hlen) (fun i f hfi => hf i f (by simpa using hfi))
  refine ⟨a, by simpa using ha, ?_⟩
  rw [he]
  show sz a + 1 ≤ uptoBulkAll (xs.map (·.1)) + 1
  rw [bulkAll_sum, List.map_map]
  exact Nat.succ_le_succ hb
theorem opensLU_iso {α β : Type} {P : Program} {fs : List Field} {o : Nat} {kd : Kd α} {sz : α → Nat} (h : OpensLU P fs o kd sz) (f : β → α) (hf : ∀ b, ∃ a, f a = b) : OpensLU P fs o (Kd.iso kd f) (fun b => sz (f b)) := by
  refine ⟨fun {H enc w base sp held fuel} cs xs hcs hxs hx => ?_⟩
  obtain ⟨a, ha, hs⟩ := h.opened cs xs hcs hxs hx
  obtain ⟨b, rfl⟩ := hf a
  exact ⟨b, ha, hs⟩
/-- an argument's value, opened -/
theorem OpensU.arg {α : Type} {P : Program} {t : TypeId} {kd : Kd α} {sz : α → Nat} (h : OpensU P t kd sz) {H : Type} {enc : TypeId × Value → H} {w : World} {base : Nat} {sp : Nat → Bool} {held : Bool} {v : Value} {d : DataW H} {ps : List MemPlace}
    (hv : DataW.Trod enc P w base sp held t v d ps) : ∃ a, kd.K w a v.cells.toList ∧ sz a ≤ uptoBulk d := by
  obtain ⟨fuel, hf⟩ := hv
  exact h.opened hf
def sUVal (x : Val) : Nat := (1 + ((x.sym.size + 1) + 1)) + 1
theorem opensU_Val : OpensU Try.prog 67 k67 sUVal :=
  OpensU.as (opensU_struct Try.underlying67 (by kernel_rfl) (opensLU_iso (opensLU_cons rfl (opensU_bool (by kernel_rfl) (by kernel_rfl)) (opensLU_cons rfl (opensU_string (by kernel_rfl) (by kernel_rfl)) (opensLU_one rfl (opensU_int (by kernel_rfl) (by kernel_rfl))))) _ (fun b => ⟨⟨b.1, b.2.1, b.2.2⟩, rfl⟩))) (fun _ => Nat.le_refl _)
def sUTerm (x : Term) : Nat := (1 + ((x.name.size + 1) + sUVal x.val)) + 1
theorem opensU_Term : OpensU Try.prog 69 k69 sUTerm :=
  OpensU.as (opensU_struct Try.underlying69 (by kernel_rfl) (opensLU_iso (opensLU_cons rfl (opensU_bool (by kernel_rfl) (by kernel_rfl)) (opensLU_cons rfl (opensU_string (by kernel_rfl) (by kernel_rfl)) (opensLU_one rfl opensU_Val))) _ (fun b => ⟨⟨b.1, b.2.1, b.2.2⟩, rfl⟩))) (fun _ => Nat.le_refl _)
def sUAtom (x : Atom) : Nat := ((x.pred.size + 1) + ((x.args.map fun y => sUTerm y).sum + 1)) + 1
theorem opensU_Atom : OpensU Try.prog 61 k61 sUAtom :=
  OpensU.as (opensU_struct Try.underlying61 (by kernel_rfl) (opensLU_iso (opensLU_cons rfl (opensU_string (by kernel_rfl) (by kernel_rfl)) (opensLU_one rfl (opensU_slice (by kernel_rfl) (by kernel_rfl) opensU_Term 69))) _ (fun b => ⟨⟨b.1, b.2⟩, rfl⟩))) (fun _ => Nat.le_refl _)
def sULiter (x : Liter) : Nat := (1 + (sUAtom x.atom + ((x.op.size + 1) + (sUTerm x.l + sUTerm x.r)))) + 1
theorem opensU_Liter : OpensU Try.prog 71 k71 sULiter :=
  OpensU.as (opensU_struct Try.underlying71 (by kernel_rfl) (opensLU_iso (opensLU_cons rfl (opensU_int (by kernel_rfl) (by kernel_rfl)) (opensLU_cons rfl opensU_Atom (opensLU_cons rfl (opensU_string (by kernel_rfl) (by kernel_rfl)) (opensLU_cons rfl opensU_Term (opensLU_one rfl opensU_Term))))) _ (fun b => ⟨⟨b.1, b.2.1, b.2.2.1, b.2.2.2.1, b.2.2.2.2⟩, rfl⟩))) (fun _ => Nat.le_refl _)
def sURule (x : Rule) : Nat := (sUAtom x.head + ((x.body.map fun y => sULiter y).sum + 1)) + 1
theorem opensU_Rule : OpensU Try.prog 64 k64 sURule :=
  OpensU.as (opensU_struct Try.underlying64 (by kernel_rfl) (opensLU_iso (opensLU_cons rfl opensU_Atom (opensLU_one rfl (opensU_slice (by kernel_rfl) (by kernel_rfl) opensU_Liter 71))) _ (fun b => ⟨⟨b.1, b.2⟩, rfl⟩))) (fun _ => Nat.le_refl _)
def sUDecl (x : Decl) : Nat := ((x.pred.size + 1) + 1) + 1
theorem opensU_Decl : OpensU Try.prog 96 k96 sUDecl :=
  OpensU.as (opensU_struct Try.underlying96 (by kernel_rfl) (opensLU_iso (opensLU_cons rfl (opensU_string (by kernel_rfl) (by kernel_rfl)) (opensLU_one rfl (opensU_int (by kernel_rfl) (by kernel_rfl)))) _ (fun b => ⟨⟨b.1, b.2⟩, rfl⟩))) (fun _ => Nat.le_refl _)
def sUProg (x : Prog) : Nat := (((x.decls.map fun y => sUDecl y).sum + 1) + ((x.rules.map fun y => sURule y).sum + 1)) + 1
theorem opensU_Prog : OpensU Try.prog 50 k50 sUProg :=
  OpensU.as (opensU_struct Try.underlying50 (by kernel_rfl) (opensLU_iso (opensLU_cons rfl (opensU_slice (by kernel_rfl) (by kernel_rfl) opensU_Decl 96) (opensLU_one rfl (opensU_slice (by kernel_rfl) (by kernel_rfl) opensU_Rule 64))) _ (fun b => ⟨⟨b.1, b.2⟩, rfl⟩))) (fun _ => Nat.le_refl _)
end Go.Proofs.Ytmlhnjonmjmhdaa.H
/- strata.Of, and the document's examples -/
namespace Go.Proofs.Ytmlhnjonmjmhdaa.H
open Go.RowKit Go.Proofs.YtmlhnjonmjmhdaaW.PrintWords
/-- the predicates' names -/
abbrev namesP (ds : List Decl) (rs : List Rule) : List ByteArray := setS (usesN ds rs)
theorem namesP_len (ds : List Decl) (rs : List Rule) : (namesP ds rs).length ≤ (usesN ds rs).length := setS_len _
theorem of_l0 {p : List ByteArray} {r : List Int} (hp : p.length ≤ 1000000) (hr : r.length ≤ 1000000) (hb : ∀ v ∈ r, 0 ≤ v ∧ v < (p.length : Int)) : ∀ (d : List Int) (i : Nat) (acc : List ByteArray), r.drop i = d → acc.length + d.length ≤ 1000000 →
    Ev (fun k => strata_Of.l0 k p acc r (r.length : Int) (i : Int)) ([], acc ++ d.map fun v => p.getD v.toNat ByteArray.empty, 7)
  | [], i, acc, hd, ha => by
    refine Ev.step (fun k => by rw [strata_Of.l0]) ?_
    exact Ev.neg (drop_end hd) (Ev.some (by simp))
  | y :: d, i, acc, hd, ha => by
    obtain ⟨h1, h2, h3, h4, h5⟩ := drop_more hd (by omega)
    have e : rd r (i : Int) = y := h3 _
    have hy := hb y (List.mem_of_mem_drop (by rw [hd]; exact List.mem_cons_self))
    rw [List.length_cons] at ha
    have next := of_l0 hp hr hb d (i + 1) (acc ++ [p.getD y.toNat ByteArray.empty]) h4 (by rw [List.length_append, List.length_singleton]; omega)
    rw [List.append_assoc] at next
    refine Ev.step (fun k => by rw [strata_Of.l0]) ?_
    rw [e, h5]
    clear h5
    exact Ev.pos h1 (Ev.pos h2 (Ev.pos h1 (Ev.pos hy.1 (Ev.pos hy.2 (Ev.pos (by omega) next)))))
section
variable {ds : List Decl} {rs : List Rule} (hb : ∀ r ∈ rs, r.body.length ≤ 1000000) (hu : (usesN ds rs).length ≤ 100)
include hb hu
theorem Of_no {lev : List Int} (hr : Ev (fun k => strata_ring.f k ((namesP ds rs).length : Int) (allE (namesP ds rs) rs) (negE (namesP ds rs) rs)) []) (hl : Ev (fun k => strata_levels.f k ((namesP ds rs).length : Int) (allE (namesP ds rs) rs) (negE (namesP ds rs) rs)) lev) : Ev (fun k => strata_Of.f k ds rs) (lev, [], 0) := by
  have hn := namesP_len ds rs
  unfold strata_Of.f
  exact Ev.bind (Preds_ev hb (by omega)) (Ev.neg (by show ¬ ((namesP ds rs).length : Int) > 1000; omega) (Ev.bind (Edges_ev (p := namesP ds rs) (by omega) hb (by omega)) (Ev.bind hr (Ev.neg (by decide) (Ev.bind hl (Ev.now _))))))
theorem Of_ring {r : List Int} (hr : Ev (fun k => strata_ring.f k ((namesP ds rs).length : Int) (allE (namesP ds rs) rs) (negE (namesP ds rs) rs)) r) (h0 : 0 < r.length) (h1 : r.length ≤ 1000000) (h2 : ∀ v ∈ r, 0 ≤ v ∧ v < ((namesP ds rs).length : Int)) :
    Ev (fun k => strata_Of.f k ds rs) ([], r.map fun v => (namesP ds rs).getD v.toNat ByteArray.empty, 7) := by
  have hn := namesP_len ds rs
  unfold strata_Of.f
  refine Ev.bind (Preds_ev hb (by omega)) (Ev.neg (by show ¬ ((namesP ds rs).length : Int) > 1000; omega) (Ev.bind (Edges_ev (p := namesP ds rs) (by omega) hb (by omega)) (Ev.bind hr (Ev.pos (by omega) ?_))))
  have := of_l0 (p := namesP ds rs) (by omega) h1 h2 r 0 [] rfl (by simp only [List.length_nil]; omega)
  exact this
/-- what strata.Of tells -/
theorem Of_ex : (∃ lev, Ev (fun k => strata_Of.f k ds rs) (lev, [], 0) ∧ lev.length = (namesP ds rs).length ∧ (∀ v ∈ lev, 0 ≤ v ∧ v ≤ 1000) ∧ (∀ e ∈ allE (namesP ds rs) rs, lev.getD e.snd.toNat 0 ≤ lev.getD e.fst.toNat 0) ∧ (∀ e ∈ negE (namesP ds rs) rs, lev.getD e.snd.toNat 0 < lev.getD e.fst.toNat 0) ∧ ∀ f, Num (allE (namesP ds rs) rs) (negE (namesP ds rs) rs) f → ∀ i, i < (namesP ds rs).length → lev.getD i 0 ≤ f i) ∨
    ∃ w, Ev (fun k => strata_Of.f k ds rs) ([], w, 7) ∧ ∃ e ∈ negE (namesP ds rs) rs, Rch (rws (namesP ds rs).length (allE (namesP ds rs) rs)) e.snd.toNat e.fst.toNat := by
  have hn := namesP_len ds rs
  have ha : inE (namesP ds rs).length (allE (namesP ds rs) rs) := allE_in ds rs
  obtain ⟨ha1, ha2⟩ := allE_len (ds := ds) (rs := rs) (namesP ds rs)
  obtain ⟨r, hr, h⟩ := Ring_ev (n := (namesP ds rs).length) (by omega) (by omega) (by omega) ha (fun e he => ha e (neg_all he))
  rcases h with ⟨h1, h2⟩ | ⟨⟨h1, h2, h3⟩, h4⟩
  · subst h1
    obtain ⟨lev, hl, h3⟩ := Levels_ev (n := (namesP ds rs).length) (by omega) (by omega) (by omega) ha (fun e he => neg_all he) h2
    exact .inl ⟨lev, Of_no hb hu hr hl, h3⟩
  · exact .inr ⟨_, Of_ring hb hu hr h1 h2 h3, h4⟩
end
theorem sum_ge {α : Type} (f : α → Nat) (c : Nat) (h : ∀ a, c ≤ f a) : ∀ l : List α, l.length * c ≤ (l.map f).sum
  | [] => by simp
  | a :: l => by
    have := sum_ge f c h l
    have := h a
    rw [List.map_cons, List.sum_cons, List.length_cons, Nat.succ_mul]
    omega
theorem mem_le_sum {α : Type} (f : α → Nat) : ∀ {l : List α} {a : α}, a ∈ l → f a ≤ (l.map f).sum
  | _ :: l, a, h => by
    rw [List.map_cons, List.sum_cons]
    rcases List.mem_cons.1 h with rfl | h
    · omega
    · have := mem_le_sum f h
      omega
theorem liter_ge (b : Liter) : 4 ≤ sULiter b := by unfold sULiter sUTerm sUVal; omega
theorem rule_ge (r : Rule) : r.body.length * 4 + 2 ≤ sURule r := by
  have := sum_ge (fun y => sULiter y) 4 liter_ge r.body
  unfold sURule
  omega
theorem ruleN_small (r : Rule) : (ruleN r).length ≤ sURule r := by
  have h1 := rule_ge r
  have h2 := List.length_filter_le useB r.body
  rw [ruleN_len]
  omega
theorem fm_small : ∀ rs : List Rule, (rs.flatMap ruleN).length ≤ (rs.map fun y => sURule y).sum
  | [] => by simp
  | r :: rs => by
    have h1 := ruleN_small r
    have h2 := fm_small rs
    rw [List.flatMap_cons, List.length_append, List.map_cons, List.sum_cons]
    omega
theorem prog_small {x : Prog} (h : sUProg x ≤ 1048576) : (∀ r ∈ x.rules, r.body.length ≤ 1000000) ∧ (usesN x.decls x.rules).length ≤ 2000000 ∧ x.rules.length ≤ 1000000 := by
  unfold sUProg at h
  have h1 := sum_ge (fun y => sURule y) 2 (fun r => by have := rule_ge r; omega) x.rules
  have h2 := fm_small x.rules
  have h3 := sum_ge (fun y => sUDecl y) 1 (fun d => by unfold sUDecl; omega) x.decls
  refine ⟨fun r hr => ?_, ?_, by omega⟩
  · have h4 := mem_le_sum (fun y => sURule y) hr
    have h5 := rule_ge r
    omega
  · unfold usesN
    rw [List.length_append, List.length_map]
    omega
theorem setS_is {l l' : List ByteArray} (hs : (l'.map toL).Pairwise (· < ·)) (hm : ∀ x, x ∈ l ↔ x ∈ l') : setS l = l' := by
  have nd : ∀ {m : List ByteArray}, (m.map toL).Pairwise (· < ·) → (m.map toL).Nodup := fun h => List.Pairwise.imp (R := (· < ·)) (fun {a b} h => by rintro rfl; exact List.lt_irrefl a h) h
  have e : (setS l).map toL = l'.map toL := by
    refine List.Perm.eq_of_pairwise (le := (· < ·)) ?_ (setS_sorted l) hs ((List.perm_ext_iff_of_nodup (nd (setS_sorted l)) (nd hs)).2 fun x => ?_)
    · intro a b _ _ h1 h2
      exact absurd (List.lt_trans h1 h2) (List.lt_irrefl a)
    · rw [List.mem_map, List.mem_map]
      exact ⟨fun ⟨y, hy, e⟩ => ⟨y, (hm y).1 (mem_setS.1 hy), e⟩, fun ⟨y, hy, e⟩ => ⟨y, mem_setS.2 ((hm y).2 hy), e⟩⟩
  have := congrArg (List.map ofL) e
  rw [List.map_map, List.map_map] at this
  have e2 : (ofL ∘ toL) = (id : ByteArray → ByteArray) := by funext x; simp [ofL_toL]
  simpa [e2] using this
def nP : ByteArray := ⟨#[112]⟩
def nQ : ByteArray := ⟨#[113]⟩
def nR : ByteArray := ⟨#[114]⟩
theorem ex11a_n : namesP [] ex11a = [nP, nQ, nR] := by
  refine setS_is (by decide) (fun x => ?_)
  show x ∈ [nP, nQ, nQ, nR] ↔ x ∈ [nP, nQ, nR]
  simp
theorem ex11b_n : namesP [] ex11b = [nP] := by
  refine setS_is (by decide) (fun x => ?_)
  show x ∈ [nP, nP] ↔ x ∈ [nP]
  simp
theorem ex11a_all : allE [nP, nQ, nR] ex11a = [⟨0, 1⟩, ⟨1, 2⟩] := by decide +kernel
theorem ex11a_neg : negE [nP, nQ, nR] ex11a = [⟨0, 1⟩] := by decide +kernel
theorem ex11b_all : allE [nP] ex11b = [⟨0, 0⟩] := by decide +kernel
theorem ex11b_neg : negE [nP] ex11b = [⟨0, 0⟩] := by decide +kernel
theorem Of_a : Ev (fun k => strata_Of.f k [] ex11a) ([1, 0, 0], [], 0) := by
  have h := Of_ex (ds := []) (rs := ex11a) (by decide) (by decide)
  rw [ex11a_n, ex11a_all, ex11a_neg] at h
  rcases h with ⟨lev, h1, h2, h3, h4, h5, h6⟩ | ⟨w, _, e, he, hr⟩
  · have hv : lev = [1, 0, 0] := by
      match lev, h2 with
      | [a, b, c], _ =>
        have k1 := h5 ⟨0, 1⟩ List.mem_cons_self
        have k2 := h3 b (by simp)
        have k3 := h3 c (by simp)
        have hf : Num [⟨0, 1⟩, ⟨1, 2⟩] [⟨0, 1⟩] (fun i => if i = 0 then 1 else 0) := ⟨fun i => by show (0 : Int) ≤ if i = 0 then 1 else 0; split <;> omega, by decide, by decide⟩
        have k4 := h6 _ hf 0 (by decide)
        have k5 := h6 _ hf 1 (by decide)
        have k6 := h6 _ hf 2 (by decide)
        simp at k1 k4 k5 k6
        have : a = 1 := by omega
        have : b = 0 := by omega
        have : c = 0 := by omega
        subst_vars
        rfl
    rw [← hv]
    exact h1
  · exfalso
    have e1 : e = ⟨0, 1⟩ := by simpa using he
    subst e1
    have : ∀ i, Rch (rws 3 [⟨0, 1⟩, ⟨1, 2⟩]) 1 i → 1 ≤ i := by
      intro i hi
      induction hi with
      | refl => exact Nat.le_refl _
      | step _ hy ih =>
        obtain ⟨_, e, he, g1, g2⟩ := mem_rws.1 hy
        have he : e = ⟨0, 1⟩ ∨ e = ⟨1, 2⟩ := by simpa using he
        rcases he with rfl | rfl
        · simp at g1; omega
        · simp at g2; omega
    exact absurd (this 0 hr) (by decide)
theorem Of_b : Ev (fun k => strata_Of.f k [] ex11b) ([], [nP, nP], 7) := by
  have hb1 : cleanBad ((1 : Nat) : Int) [⟨0, 0⟩] = false := by decide
  obtain ⟨p, hp, hpi, _⟩ := (Path_is (n := 1) (l := [⟨0, 0⟩]) (by decide) hb1 (a := 0) (b := 0) (by decide) (by decide)).1 .refl
  have h1 := hpi.short 0 .refl
  have h2 := hpi.fst
  have hpe : p = [0] := by
    match p, h1, h2 with
    | [x], _, h2 => simp at h2; rw [h2]
  subst hpe
  have hring : Ev (fun k => strata_ring.f k ((namesP [] ex11b).length : Int) (allE (namesP [] ex11b) ex11b) (negE (namesP [] ex11b) ex11b)) [0, 0] := by
    rw [ex11b_n, ex11b_all, ex11b_neg]
    unfold strata_ring.f
    have hcl : graph_Clean.f ((1 : Nat) : Int) [⟨0, 0⟩] = some ([⟨0, 0⟩], 0) := by
      unfold graph_Clean.f
      rw [if_pos (by decide), hb1, show sortL [(⟨0, 0⟩ : IPair)] = [⟨0, 0⟩] from (sortL_eq (List.Perm.refl _) (List.pairwise_singleton _ _)).symm]
      rfl
    refine Ev.pure hcl ?_
    refine Ev.step (fun k => by rw [strata_ring.l0]) ?_
    exact Ev.pos (by decide) (Ev.pos (by decide) (Ev.pos (by decide) (Ev.bind hp (Ev.pos (by decide) (Ev.pure rfl (Ev.pos (by decide) (Ev.now _)))))))
  have h := Of_ring (ds := []) (rs := ex11b) (by decide) (by decide) hring (by decide) (by decide) (by rw [ex11b_n]; decide)
  rw [ex11b_n] at h
  exact h
theorem shown11_ev : Ev (fun k => lambrequinlaw11_shown.f k) true := by
  unfold lambrequinlaw11_shown.f
  refine Ev.bind Of_a (Ev.bind Of_b ?_)
  exact Ev.pos ⟨rfl, rfl⟩ (Ev.now _)
end Go.Proofs.Ytmlhnjonmjmhdaa.H
namespace Go.Proofs.Ytmlhnjonmjmhdaa.H
open Go.RowKit Go.Proofs.YtmlhnjonmjmhdaaW.PrintWords Go.Proofs.YtmlhnjonmjmhdaaW.PrintLast Go.Proofs.YtmlhnjonmjmhdaaW.PrintMore
attribute [local go_sem] max2_int min2_int max_two min_two max_three min_three max_four min_four
def lambrequinref11_At.l0 : Nat → List ByteArray → ByteArray → Int → Option (Int)
 | 0, _, _, _ => none
 | k + 1, x0, x1, x5 => if x5 < (x0.length : Int) then (if 0 ≤ x5 then (if (rdOf ByteArray.empty x0 x5).toList = x1.toList then (some x5) else (lambrequinref11_At.l0 k x0 x1 (wrap64 (x5 + 1)))) else (none)) else (some (-1))
def lambrequinref11_At.f (k : Nat) (l0 : List ByteArray) (a1 : ByteArray) : Option (Int) := lambrequinref11_At.l0 k l0 a1 0
theorem lambrequinref11_At.mono_l : ∀ k, (∀ y0 y1 y2, LeO (lambrequinref11_At.l0 k y0 y1 y2) (lambrequinref11_At.l0 (k + 1) y0 y1 y2))
 | 0 => fun _ _ _ r h => by simp [lambrequinref11_At.l0] at h
 | k + 1 => by
  have ih0 := lambrequinref11_At.mono_l k
  ·intro y0 y1 y2
   unfold lambrequinref11_At.l0
   repeat' first
   | (with_reducible exact ih0 _ _ _)
   | (with_reducible exact LeO.refl _)
   | (with_reducible exact LeO.none _)
   | (with_reducible refine LeO.ite ?_ ?_)
   | (with_reducible refine LeO.bind ?_ (fun _ => ?_))
   | exact ih0 _ _ _
   | exact LeO.none _
   | refine LeO.ite ?_ ?_
   | refine LeO.bind ?_ (fun _ => ?_)
theorem lambrequinref11_At.mono : ∀ a0 a1 k, LeO (lambrequinref11_At.f k a0 a1) (lambrequinref11_At.f (k + 1) a0 a1) := by
 intro a0 a1 k
 have ih0 := lambrequinref11_At.mono_l k
 unfold lambrequinref11_At.f
 repeat' first
   | (with_reducible exact ih0 _ _ _)
   | (with_reducible exact LeO.refl _)
   | (with_reducible exact LeO.none _)
   | (with_reducible refine LeO.ite ?_ ?_)
   | (with_reducible refine LeO.bind ?_ (fun _ => ?_))
   | exact ih0 _ _ _
   | exact LeO.none _
   | refine LeO.ite ?_ ?_
   | refine LeO.bind ?_ (fun _ => ?_)
set_option maxHeartbeats 8000000 in
set_option maxRecDepth 100000 in
theorem lambrequinref11_At.calls (k : Nat) (A0 : Option Addr) (c0 : Nat) (l0 : List ByteArray) (a1 : ByteArray) (r : Int) (w : World) (hr0 : Kd.C Kd.string w A0 l0.length l0) (hc0 : l0.length ≤ c0) (h : lambrequinref11_At.f k l0 a1 = some r) :
  Calls Try.prog 34 #[.slice A0 l0.length c0, .string a1] w fun e w' => e = .returned (.int .i64 r) ∧ Drawn0 w w' := by
 have HR0 := Aside0.mk hr0
 have HC0 := Aside0.mk hc0
 clear hr0 hc0
 have H : (lambrequinref11_At.l0 k l0 a1 0) = some r := h
 clear h
 have H' := Aside0.mk H
 clear H
 go_enter Try.func34, Try.ntmps34
 go_wp2
 go_loopg [5] k (fun kq v5 w' => ∃ (x5_1 : Int), v5 = .int .i64 x5_1 ∧ Aside0 (lambrequinref11_At.l0 kq l0 a1 x5_1 = some r) ∧ Aside0 (kq ≤ k) ∧ Drawn0 w w')
 case atStart => exact ⟨(0), (by first | rfl | (simp; done) | (simp [*]; done)), H', ⟨Nat.le_refl _⟩, by repeat (first | exact Drawn0.refl _ | apply Drawn0.step)⟩
 case round =>
  clear H'
  try clear p2
  obtain ⟨x5_1, rfl, HA, HK1, ⟨m1, rfl⟩⟩ := hrel
  cases gk with
  | zero => exact absurd HA.out (by simp [lambrequinref11_At.l0])
  | succ k1 =>
   have H := HA.out
   clear HA
   simp only [lambrequinref11_At.l0] at H
   by_cases c3 : x5_1 < (l0.length : Int)
   ·rw [if_pos c3] at H
    have c3b0 : decide (x5_1 < (l0.length : Int)) = true := decide_eq_true c3
    clear c3
    by_cases c4 : 0 ≤ x5_1
    ·rw [if_pos c4] at H
     have c4b0 : decide (0 ≤ x5_1) = true := decide_eq_true c4
     clear c4
     by_cases c5 : (rdOf ByteArray.empty l0 x5_1).toList = a1.toList
     ·rw [if_pos c5] at H
      have c5b0 : ((rdOf ByteArray.empty l0 x5_1).toList == a1.toList) = true := beq_iff_eq.mpr c5
      have c5b1 : ((rdOf ByteArray.empty l0 x5_1).toList != a1.toList) = false := bne_eq_false_iff_eq.mpr c5
      clear c5
      obtain rfl := Option.some.inj H
      have p101 : 0 ≤ (x5_1 : Int) := of_decide_eq_true (by first | (with_reducible assumption) | assumption)
      have q101 : x5_1 < (l0.length : Int) := of_decide_eq_true (by first | (with_reducible assumption) | assumption)
      obtain ⟨ad101, e101, hx101_0⟩ := Kd.at_string HR0.out x5_1 p101 q101
      cases e101
      replace p101 := eq_true p101
      replace q101 := eq_true q101
      go_wp2
      go_ret
      exact ⟨by first | rfl | (simp; done) | (simp [*]; done), by repeat (first | exact Drawn0.refl _ | apply Drawn0.step)⟩
     ·rw [if_neg c5] at H
      have c5b0 : ((rdOf ByteArray.empty l0 x5_1).toList == a1.toList) = false := beq_eq_false_iff_ne.mpr c5
      have c5b1 : ((rdOf ByteArray.empty l0 x5_1).toList != a1.toList) = true := bne_iff_ne.mpr c5
      have H' := Aside0.mk H
      clear H
      have p101 : 0 ≤ (x5_1 : Int) := of_decide_eq_true (by first | (with_reducible assumption) | assumption)
      have q101 : x5_1 < (l0.length : Int) := of_decide_eq_true (by first | (with_reducible assumption) | assumption)
      obtain ⟨ad101, e101, hx101_0⟩ := Kd.at_string HR0.out x5_1 p101 q101
      cases e101
      replace p101 := eq_true p101
      replace q101 := eq_true q101
      go_wp2
      go_roundg k1
      case measure => have := HK1.out; omega
      case rel => exact ⟨(wrap64 (x5_1 + 1)), (by first | rfl | (simp; done) | (simp [*]; done)), H', ⟨by have := HK1.out; omega⟩, by repeat (first | exact Drawn0.refl _ | apply Drawn0.step)⟩
    ·rw [if_neg c4] at H
     exact absurd H (by simp)
   ·rw [if_neg c3] at H
    have c3b0 : decide (x5_1 < (l0.length : Int)) = false := decide_eq_false c3
    clear c3
    obtain rfl := Option.some.inj H
    go_wp2
    go_ret
    exact ⟨by first | rfl | (simp; done) | (simp [*]; done), by repeat (first | exact Drawn0.refl _ | apply Drawn0.step)⟩
end Go.Proofs.Ytmlhnjonmjmhdaa.H
